/- Towards the statement, part 2 of 6: contracts of functions, and what they rest on. Conditions: each theorem names its own. -/
import Derived.Test.YtpbhjlljgbjjlaaGreatM1
import Derived.Maps.Range
import Derived.DeepKeys4
set_option linter.unusedVariables false
set_option linter.unusedSimpArgs false
namespace Go.Proofs.YtpbhjlljgbjjlaaGreat
open Go.RowKit
theorem f7 {a:List Nat} (ha:Lim a):(b9 (nv a)).length≤a.length:=by rw [← d9 ha]; exact m5 a
theorem mB {a b:Nat} (h:a≤b):(b9 a).length≤(b9 b).length:=by
 have:=l9 (cK b)
 rw [dN] at this
 exact e8 qN
theorem add_eq {S1 S2 Sm P s c c' x y:Nat} (h:Sm+P*c=S1+S2) (hs:s+18446744073709551616*c'=x+y+c) :
  Sm+P*s+P*18446744073709551616*c'=(S1+P*x)+(S2+P*y):=by
 have:P*s+P*18446744073709551616*c'=P*x+P*y+P*c:=by rw [Nat.mul_assoc,← Nat.mul_add,hs,Nat.mul_add,Nat.mul_add]
 omega
theorem gU {l:List Nat} {i:Nat} (h:l.length≤i):l.getD i 0=0:=by simp [gE,List.getElem?_eq_none h]
theorem vY (va vb:Value) (a b:List Nat) (ha:Lim a) (hb:Lim b) (la:a.length≤1099511627776) (lb:b.length≤1099511627776) :
  aY Tryz.prog 132 [va,vb] [(va,U a),(vb,U b)] (fun r os fs=>os=[]∧fs=[(r,U (b9 (nv a+nv b)))]):=by
 refine mV Tryz.func132 ?_
 refine cG (dI va a) fun va'=>?_
 refine cG (dI vb b) fun vb'=>?_
 rw [d9 ha,d9 hb]
 have hla:=f7 ha
 have hlb:=f7 hb
 refine aS qM fun _=>?_
 refine aS qM fun _=>?_
 refine aO _ rfl (fun hc=>?_) (fun hc=>?_)
 all_goals
  refine aS qM fun _=>?_
  refine ar rfl qI ?_
 ·
  refine rY ((b9 (nv b)).length+1) qN qN qN qN fun vo ho=>?_
  refine aS qM fun _=>?_
  refine bD (X:=Nat×List Nat×Nat) (fun x=>([(0,vb'),(1,va'),(5,vo),(6,.int .u64 (x.2.2:Nat)),(25,.int .i64 ((b9 (nv b)).length:Nat)),(26,.int .i64 (x.1:Nat))],[j8 vo x.2.1],[(vb',U (b9 (nv b))),(va',U (b9 (nv a)))]))
   (fun x=>x.1≤(b9 (nv b)).length∧x.2.1.length=(b9 (nv b)).length+1∧Lim x.2.1∧x.2.2≤1 ∧
    nv (x.2.1.take x.1)+18446744073709551616^x.1*x.2.2=nv ((b9 (nv b)).take x.1)+nv ((b9 (nv a)).take x.1)) (fun x=>(b9 (nv b)).length - x.1) rfl ?_ ?_
  ·exact bB (0,List.replicate ((b9 (nv b)).length+1) 0,0) ⟨Nat.zero_le _,by simp,Lim.replicate _,by simp,by simp [nv]⟩ trivial qF (aD qS)
  ·rintro ⟨i,l,c⟩ ⟨h1,h2,h3,h4,h5⟩
   simp only at h1 h2 h3 h4 h5 ⊢
   refine aO _ rfl (fun hc=>?_) (fun hc=>?_)
   ·refine aS qM fun _=>?_
    have hx:=(cK (nv b)).get i
    have hy:=(cK (nv a)).get i
    have hs:=Nat.mod_add_div ((b9 (nv b)).getD i 0+(b9 (nv a)).getD i 0+c) 18446744073709551616
    refine aO _ rfl (fun hd=>?_) (fun hd=>?_)
    ·refine aZ qM i rfl qN fun p=>?_
     refine bF qM ?_
     refine aZ qM i rfl qN fun p=>?_
     refine bF qM ?_
     refine iC ((b9 (nv b)).getD i 0) ((b9 (nv a)).getD i 0) c rfl (by first | rfl | (rw [gU (l:=b9 (nv a)) qN]; rfl)) rfl h4 ?_
     refine fV 0 rfl ho i rfl qN ?_
     refine fS 0 rfl _ rfl qN ?_
     refine ar rfl qI ?_
     refine bB (i+1,l.set i (((b9 (nv b)).getD i 0+(b9 (nv a)).getD i 0+c)%18446744073709551616),((b9 (nv b)).getD i 0+(b9 (nv a)).getD i 0+c)/18446744073709551616) ⟨by omega,by simp [h2],h3.set _ qN,by simp only; omega,?_⟩ (by simp only; omega) qF (aD qS)
     simp only
     rw [fL qN,cV,cV,Nat.pow_succ]
     exact add_eq h5 hs
    ·
     refine aZ qM i rfl qN fun p=>?_
     refine bF qM ?_
     refine iC ((b9 (nv b)).getD i 0) ((b9 (nv a)).getD i 0) c rfl (by first | rfl | (rw [gU (l:=b9 (nv a)) qN]; rfl)) rfl h4 ?_
     refine fV 0 rfl ho i rfl qN ?_
     refine fS 0 rfl _ rfl qN ?_
     refine ar rfl qI ?_
     refine bB (i+1,l.set i (((b9 (nv b)).getD i 0+(b9 (nv a)).getD i 0+c)%18446744073709551616),((b9 (nv b)).getD i 0+(b9 (nv a)).getD i 0+c)/18446744073709551616) ⟨by omega,by simp [h2],h3.set _ qN,by simp only; omega,?_⟩ (by simp only; omega) qF (aD qS)
     simp only
     rw [fL qN,cV,cV,Nat.pow_succ]
     exact add_eq h5 hs
   ·have hi:i=(b9 (nv b)).length:=by omega
    refine aS qM fun _=>?_
    refine fV 0 rfl ho (b9 (nv b)).length rfl qN ?_
    refine fS 0 rfl c rfl qN ?_
    refine bN (dI vo (l.set (b9 (nv b)).length c)) (Seals.U 0 rfl ho) qS ?_
    rintro r _ _ ⟨rfl,rfl⟩
    have hl:nv (l.set (b9 (nv b)).length c)=nv a+nv b:=by
     have e1:=fL (l:=l) (i:=(b9 (nv b)).length) (x:=c) qN
     have e2:((l.set (b9 (nv b)).length c).take ((b9 (nv b)).length+1))=l.set (b9 (nv b)).length c:=List.take_of_length_le (by simp; omega)
     rw [e2] at e1
     rw [hi] at h5
     rw [e1,h5,List.take_length,List.take_of_length_le qN,dN,dN] <;> omega
    exact fin ⟨rfl,rfl⟩ (Seals.cons ((cI qM).cast (by rw [d9 (h3.set _ qN),hl])) (bO _ _))
 ·
  refine rY ((b9 (nv a)).length+1) qN qN qN qN fun vo ho=>?_
  refine aS qM fun _=>?_
  refine bD (X:=Nat×List Nat×Nat) (fun x=>([(0,va'),(1,vb'),(5,vo),(6,.int .u64 (x.2.2:Nat)),(25,.int .i64 ((b9 (nv a)).length:Nat)),(26,.int .i64 (x.1:Nat))],[j8 vo x.2.1],[(va',U (b9 (nv a))),(vb',U (b9 (nv b)))]))
   (fun x=>x.1≤(b9 (nv a)).length∧x.2.1.length=(b9 (nv a)).length+1∧Lim x.2.1∧x.2.2≤1 ∧
    nv (x.2.1.take x.1)+18446744073709551616^x.1*x.2.2=nv ((b9 (nv a)).take x.1)+nv ((b9 (nv b)).take x.1)) (fun x=>(b9 (nv a)).length - x.1) rfl ?_ ?_
  ·exact bB (0,List.replicate ((b9 (nv a)).length+1) 0,0) ⟨Nat.zero_le _,by simp,Lim.replicate _,by simp,by simp [nv]⟩ trivial qF (aD qS)
  ·rintro ⟨i,l,c⟩ ⟨h1,h2,h3,h4,h5⟩
   simp only at h1 h2 h3 h4 h5 ⊢
   refine aO _ rfl (fun hc=>?_) (fun hc=>?_)
   ·refine aS qM fun _=>?_
    have hx:=(cK (nv a)).get i
    have hy:=(cK (nv b)).get i
    have hs:=Nat.mod_add_div ((b9 (nv a)).getD i 0+(b9 (nv b)).getD i 0+c) 18446744073709551616
    refine aO _ rfl (fun hd=>?_) (fun hd=>?_)
    ·refine aZ qM i rfl qN fun p=>?_
     refine bF qM ?_
     refine aZ qM i rfl qN fun p=>?_
     refine bF qM ?_
     refine iC ((b9 (nv a)).getD i 0) ((b9 (nv b)).getD i 0) c rfl (by first | rfl | (rw [gU (l:=b9 (nv b)) qN]; rfl)) rfl h4 ?_
     refine fV 0 rfl ho i rfl qN ?_
     refine fS 0 rfl _ rfl qN ?_
     refine ar rfl qI ?_
     refine bB (i+1,l.set i (((b9 (nv a)).getD i 0+(b9 (nv b)).getD i 0+c)%18446744073709551616),((b9 (nv a)).getD i 0+(b9 (nv b)).getD i 0+c)/18446744073709551616) ⟨by omega,by simp [h2],h3.set _ qN,by simp only; omega,?_⟩ (by simp only; omega) qF (aD qS)
     simp only
     rw [fL qN,cV,cV,Nat.pow_succ]
     exact add_eq h5 hs
    ·
     refine aZ qM i rfl qN fun p=>?_
     refine bF qM ?_
     refine iC ((b9 (nv a)).getD i 0) ((b9 (nv b)).getD i 0) c rfl (by first | rfl | (rw [gU (l:=b9 (nv b)) qN]; rfl)) rfl h4 ?_
     refine fV 0 rfl ho i rfl qN ?_
     refine fS 0 rfl _ rfl qN ?_
     refine ar rfl qI ?_
     refine bB (i+1,l.set i (((b9 (nv a)).getD i 0+(b9 (nv b)).getD i 0+c)%18446744073709551616),((b9 (nv a)).getD i 0+(b9 (nv b)).getD i 0+c)/18446744073709551616) ⟨by omega,by simp [h2],h3.set _ qN,by simp only; omega,?_⟩ (by simp only; omega) qF (aD qS)
     simp only
     rw [fL qN,cV,cV,Nat.pow_succ]
     exact add_eq h5 hs
   ·have hi:i=(b9 (nv a)).length:=by omega
    refine aS qM fun _=>?_
    refine fV 0 rfl ho (b9 (nv a)).length rfl qN ?_
    refine fS 0 rfl c rfl qN ?_
    refine bN (dI vo (l.set (b9 (nv a)).length c)) (Seals.U 0 rfl ho) qS ?_
    rintro r _ _ ⟨rfl,rfl⟩
    have hl:nv (l.set (b9 (nv a)).length c)=nv a+nv b:=by
     have e1:=fL (l:=l) (i:=(b9 (nv a)).length) (x:=c) qN
     have e2:((l.set (b9 (nv a)).length c).take ((b9 (nv a)).length+1))=l.set (b9 (nv a)).length c:=List.take_of_length_le (by simp; omega)
     rw [e2] at e1
     rw [hi] at h5
     rw [e1,h5,List.take_length,List.take_of_length_le qN,dN,dN] <;> omega
    exact fin ⟨rfl,rfl⟩ (Seals.cons ((cI qM).cast (by rw [d9 (h3.set _ qN),hl])) (bO _ _))
theorem o7 (v:Value) (l:List Nat) (ll:l.length≤1099511627776):aY Tryz.prog 146 [v] [(v,U l)] (fun r os fs=>os=[j8 r l]∧eQ r∧fs=[]):=by
 refine mV Tryz.func146 ?_
 refine sE qM (fun h0=>?_) ?_
 ·have hl:l=[]:=List.eq_nil_of_length_eq_zero h0
  subst hl
  exact fin ⟨rfl,eP,rfl⟩ ((bO _ _).trans (Seals.nil_U _ _))
 ·refine empty_U fun u hu=>?_
  refine append_U (l:=[]) 0 rfl hu (cI qM) (by simp; omega) (by simp; omega) fun w hw=>?_
  exact fin ⟨rfl,hw,rfl⟩ (bO _ _)
theorem lK (v:Value) (l:List Nat) (hl:Lim l) (ll:l.length≤1099511627776):aY Tryz.prog 130 [v] [(v,U l)] (fun r os fs=>os=[]∧fs=[(r,U (b9 (nv l)))]):=by
 refine mV Tryz.func130 ?_
 refine cG (dI v l) fun v'=>?_
 rw [d9 hl]
 have h:=f7 hl
 refine cF (o7 v' (b9 (nv l)) qN) ?_
 rintro r _ _ ⟨rfl,hr,rfl⟩
 exact fin ⟨rfl,rfl⟩ ((Seals.U 0 rfl hr).trans (aD qS))
def cmpN (a b:Nat):Int:=if a<b then -1 else if b<a then 1 else 0
theorem tB (l:List Nat) (i:Nat):nv l=nv (l.take i)+18446744073709551616^i*(l.getD i 0+18446744073709551616*nv (l.drop (i+1))):=by
 have h1:nv l=nv (l.take i)+18446744073709551616^i*nv (l.drop i):=by
  by_cases h:i≤l.length
  ·have:=kE (l.take i) (l.drop i)
   rw [List.take_append_drop] at this
   have hl:(l.take i).length=i:=by simp; omega
   rw [hl] at this
   exact this
  ·rw [List.take_of_length_le qN,List.drop_eq_nil_of_le qN]; simp [nv]
 rw [h1]
 congr 2
 by_cases h:i<l.length
 ·rw [List.drop_eq_getElem_cons h,nv]
  simp [gE,h]
 ·rw [List.drop_eq_nil_of_le qN,List.drop_eq_nil_of_le qN,gU qN]; simp [nv]
theorem nv_lt_top {a b:List Nat} {i:Nat} (ha:Lim a) (_hb:Lim b) (hi:i<a.length) (hd:a.drop (i+1)=b.drop (i+1)) (h:a.getD i 0<b.getD i 0):nv a<nv b:=by
 rw [tB a i,tB b i,hd]
 have h1:=l9 (ha.take i)
 have h2:(a.take i).length=i:=by simp; omega
 rw [h2] at h1
 have h3:18446744073709551616^i*(a.getD i 0+18446744073709551616*nv (b.drop (i+1)))+18446744073709551616^i≤18446744073709551616^i*(b.getD i 0+18446744073709551616*nv (b.drop (i+1))):=by
  rw [← Nat.mul_succ]; exact Nat.mul_le_mul_left _ qN
 omega
theorem drop_step {a b:List Nat} {i:Nat} (ha:i<a.length) (hb:i<b.length) (hd:a.drop (i+1)=b.drop (i+1)) (h:a.getD i 0=b.getD i 0):a.drop i=b.drop i:=by
 rw [List.drop_eq_getElem_cons ha,List.drop_eq_getElem_cons hb,hd]
 simp [gE,ha,hb] at h
 rw [h]
theorem qA (va vb:Value) (a b:List Nat) (ha:Lim a) (hb:Lim b) :
  aY Tryz.prog 53 [va,vb] [(va,U a),(vb,U b)] (fun r os fs=>os=[]∧fs=[]∧r=.int .i64 (cmpN (nv a) (nv b))):=by
 refine mV Tryz.func53 ?_
 refine cG (dI va a) fun va'=>?_
 refine cG (dI vb b) fun vb'=>?_
 rw [d9 ha,d9 hb]
 refine aS qM fun _=>?_
 refine aS qM fun _=>?_
 refine aO _ rfl (fun hc=>?_) (fun hc=>?_)
 ·refine fin ⟨rfl,rfl,?_⟩ (bO _ _)
  have:nv a<nv b:=Nat.lt_of_not_le fun h=>by have:=mB h; omega
  simp [cmpN,this,tup]
 refine aS qM fun _=>?_
 refine aS qM fun _=>?_
 refine aO _ rfl (fun hd=>?_) (fun hd=>?_)
 ·refine fin ⟨rfl,rfl,?_⟩ (bO _ _)
  have h:nv b<nv a:=Nat.lt_of_not_le fun h=>by have:=mB h; omega
  have h':¬ nv a<nv b:=by omega
  simp [cmpN,h,h',tup]
 have hlen:(b9 (nv a)).length=(b9 (nv b)).length:=by omega
 refine aS qM fun _=>?_
 refine ar rfl qI ?_
 refine bD (X:=Nat) (fun k=>([(0,va'),(1,vb'),(5,.int .i64 ((k:Int) - 1))],[],[(va',U (b9 (nv a))),(vb',U (b9 (nv b)))]))
  (fun k=>k≤(b9 (nv a)).length∧(b9 (nv a)).drop k=(b9 (nv b)).drop k) (fun k=>k) rfl ?_ ?_
 ·exact bB (b9 (nv a)).length ⟨Nat.le_refl _,by rw [List.drop_length,hlen,List.drop_length]⟩ trivial qF (aD qS)
 ·rintro k ⟨h1,h2⟩
  simp only at h1 h2 ⊢
  refine aO _ rfl (fun he=>?_) (fun he=>?_)
  ·obtain ⟨i,rfl⟩:∃ i,k=i+1:=⟨k - 1,by omega⟩
   refine bC [0,1,2,3,4,5,6,7,8,9] [0,1,2,3,4,5,6,7,8,9] qK qK ?_
   refine aZ qM i qN qN fun p=>?_
   refine bF qM ?_
   refine aZ qM i qN qN fun q=>?_
   refine bF qM ?_
   refine aO _ rfl (fun hf=>?_) (fun hf=>?_)
   ·refine fin ⟨rfl,rfl,?_⟩ (bO _ _)
    have:=nv_lt_top (cK (nv a)) (cK (nv b)) (i:=i) qN h2 qN
    rw [dN,dN] at this
    simp [cmpN,this,tup]
   refine bC [0,1,2,3,4,5,6,7,8,9] [0,1,2,3,4,5,6,7,8,9] qK qK ?_
   refine aZ qM i qN qN fun p=>?_
   refine bF qM ?_
   refine aZ qM i qN qN fun q=>?_
   refine bF qM ?_
   refine aO _ rfl (fun hg=>?_) (fun hg=>?_)
   ·refine fin ⟨rfl,rfl,?_⟩ (bO _ _)
    have h:=nv_lt_top (cK (nv b)) (cK (nv a)) (i:=i) qN h2.symm qN
    rw [dN,dN] at h
    have h':¬ nv a<nv b:=by omega
    simp [cmpN,h,h',tup]
   refine ar rfl qI ?_
   refine bB i ⟨by omega,drop_step qN qN h2 qN⟩ (by simp only; omega) qF (aD qS)
  ·have hk:k=0:=by omega
   refine fin ⟨rfl,rfl,?_⟩ (bO _ _)
   rw [hk,List.drop_zero,List.drop_zero] at h2
   have:=lims_inj h2
   simp [cmpN,this,tup]
theorem less_eq {Sa Sb Sm P s c c' x y:Nat} (h:Sm+Sb=Sa+P*c) (hs:s+y+c=x+18446744073709551616*c') :
  (Sm+P*s)+(Sb+P*y)=(Sa+P*x)+P*18446744073709551616*c':=by
 have:P*s+P*y+P*c=P*x+P*18446744073709551616*c':=by rw [Nat.mul_assoc,← Nat.mul_add,← Nat.mul_add,hs,Nat.mul_add]
 omega
theorem less_meets (va vb:Value) (a b:List Nat) (ha:Lim a) (hb:Lim b) (la:a.length≤1099511627776) (hlb:b.length≤a.length) (hle:nv b≤nv a) :
  aY Tryz.prog 148 [va,vb] [(va,U a),(vb,U b)] (fun r os fs=>os=[]∧∃ m,fs=[(r,U m)]∧Lim m∧nv m=nv a - nv b):=by
 refine mV Tryz.func148 ?_
 refine aS qM fun _=>?_
 refine rY a.length rfl rfl qN qN fun vo ho=>?_
 refine aS qM fun _=>?_
 refine bD (X:=Nat×List Nat×Nat) (fun x=>([(0,va),(1,vb),(5,vo),(6,.int .u64 (x.2.2:Nat)),(13,.int .i64 (a.length:Nat)),(14,.int .i64 (x.1:Nat))],[j8 vo x.2.1],[(va,U a),(vb,U b)]))
  (fun x=>x.1≤a.length∧x.2.1.length=a.length∧Lim x.2.1∧x.2.2≤1 ∧
   nv (x.2.1.take x.1)+nv (b.take x.1)=nv (a.take x.1)+18446744073709551616^x.1*x.2.2) (fun x=>a.length - x.1) rfl ?_ ?_
 ·exact bB (0,List.replicate a.length 0,0) ⟨Nat.zero_le _,by simp,Lim.replicate _,by simp,by simp [nv]⟩ trivial qF (aD qS)
 ·rintro ⟨i,l,c⟩ ⟨h1,h2,h3,h4,h5⟩
  simp only at h1 h2 h3 h4 h5 ⊢
  refine aO _ rfl (fun hc=>?_) (fun hc=>?_)
  ·refine aS qM fun _=>?_
   have hx:=ha.get i
   have hy:=hb.get i
   refine aO _ rfl (fun hd=>?_) (fun hd=>?_)
   ·refine aZ qM i rfl qN fun p=>?_
    refine bF qM ?_
    refine aZ qM i rfl qN fun p=>?_
    refine bF qM ?_
    refine n6 (a.getD i 0) (b.getD i 0) c rfl (by first | rfl | (rw [gU (l:=b) qN]; rfl)) rfl h4 ?_
    refine fV 0 rfl ho i rfl qN ?_
    refine fS 0 rfl _ rfl qN ?_
    refine ar rfl qI ?_
    refine bB (i+1,l.set i ((a.getD i 0+18446744073709551616 - b.getD i 0 - c)%18446744073709551616),if a.getD i 0<b.getD i 0+c then 1 else 0) ⟨by omega,by simp [h2],h3.set _ qN,by simp only; split <;> omega,?_⟩ (by simp only; omega) qF (aD qS)
    simp only
    rw [fL qN,cV,cV,Nat.pow_succ]
    exact less_eq h5 (by split <;> omega)
   ·
    refine aZ qM i rfl qN fun p=>?_
    refine bF qM ?_
    refine n6 (a.getD i 0) (b.getD i 0) c rfl (by first | rfl | (rw [gU (l:=b) qN]; rfl)) rfl h4 ?_
    refine fV 0 rfl ho i rfl qN ?_
    refine fS 0 rfl _ rfl qN ?_
    refine ar rfl qI ?_
    refine bB (i+1,l.set i ((a.getD i 0+18446744073709551616 - b.getD i 0 - c)%18446744073709551616),if a.getD i 0<b.getD i 0+c then 1 else 0) ⟨by omega,by simp [h2],h3.set _ qN,by simp only; split <;> omega,?_⟩ (by simp only; omega) qF (aD qS)
    simp only
    rw [fL qN,cV,cV,Nat.pow_succ]
    exact less_eq h5 (by split <;> omega)
  ·have hi:i=a.length:=by omega
   refine fin ⟨rfl,l,rfl,h3,?_⟩ ((Seals.U 0 rfl ho).trans (aD qS))
   have h6:=l9 h3
   rw [h2] at h6
   rw [hi,List.take_of_length_le qN,List.take_of_length_le qN,List.take_length] at h5
   have hc0:c=0∨c=1:=by omega
   rcases hc0 with rfl | rfl
   ·omega
   ·rw [Nat.mul_one] at h5; omega
theorem tZ (va vb:Value) (a b:List Nat) (ha:Lim a) (hb:Lim b) (la:a.length≤1099511627776) :
  aY Tryz.prog 133 [va,vb] [(va,U a),(vb,U b)] (fun r os fs=>os=[]∧((nv a<nv b∧fs=[]∧r=.tuple #[.slice none 0 0,.bool false]) ∨
   (nv b≤nv a∧∃ s,r=.tuple #[s,.bool true]∧fs=[(s,U (b9 (nv a - nv b)))]))):=by
 refine mV Tryz.func133 ?_
 refine cH (qA va vb a b ha hb) ?_
 refine aO _ rfl (fun hc=>?_) (fun hc=>?_)
 ·have:nv a<nv b:=by unfold cmpN at hc; split at hc <;> first | assumption | (split at hc <;> omega)
  exact fin ⟨rfl,.inl ⟨this,rfl,rfl⟩⟩ (bO _ _)
 ·have hle:nv b≤nv a:=by unfold cmpN at hc; split at hc <;> omega
  refine cG (dI va a) fun va'=>?_
  refine cG (dI vb b) fun vb'=>?_
  rw [d9 ha,d9 hb]
  have hla:=f7 ha
  refine cF (less_meets va' vb' (b9 (nv a)) (b9 (nv b)) (cK _) (cK _) qN (mB hle) (by rw [dN,dN]; exact hle)) ?_
  rintro vl _ _ ⟨rfl,m,rfl,hm,hnm⟩
  rw [dN,dN] at hnm
  refine cG (dI vl m) fun r=>?_
  rw [d9 hm,hnm]
  exact fin ⟨rfl,.inr ⟨hle,r,rfl,rfl⟩⟩ (aD qS)
theorem iR {P:Program} {t:TypeId} {x y:Operand} {os:List Own} {fs:List bA} {K:cE} (a:Nat) {z m:Int} (k p:Nat) (hz:z=(a:Int)) (hp:p=2^k) (hm:m=((p - 1:Nat):Int)) (ha:a<18446744073709551616) (hk:k≤63)
  (h1:K (.int .u64 ((a%p:Nat):Int)) os fs):pC P .and t x y (.int .u64 z) (.int .u64 m) os fs K:=by
 subst hz hm hp
 have hp:2^k≤2^63:=Nat.pow_le_pow_right qE hk
 have hlt:2^k - 1<18446744073709551616:=by omega
 refine ⟨dD _ (fun w=>?_) h1⟩
 have hb:(BitVec.ofInt 64 (a:Int) &&& BitVec.ofInt 64 ((2^k - 1:Nat):Int)).toNat=a%2^k:=by
  rw [BitVec.toNat_and]
  have e1:(BitVec.ofInt 64 (a:Int)).toNat=a:=by rw [BitVec.toNat_ofInt]; omega
  have e2:(BitVec.ofInt 64 ((2^k - 1:Nat):Int)).toNat=2^k - 1:=by
   generalize 2^k - 1=q at hlt
   rw [BitVec.toNat_ofInt]; omega
  rw [e1,e2,Nat.and_two_pow_sub_one_eq_mod]
 have hw:IntKind.u64.wrap ((a%2^k:Nat):Int)=((a%2^k:Nat):Int):=bT (by
  have:a%2^k≤a:=Nat.mod_le _ _
  exact ⟨Int.natCast_nonneg _,by omega⟩)
 have hd:∀ X Y:BitVec 64,(X &&& Y).toNat=a%2^k→IntKind.u64.wrap ((X &&& Y).toNat:Int)=((a%2^k:Nat):Int):=fun X Y h=>by rw [h,hw]
 simp only [eqGuard,binOp,Op.intBits,Sem.run_bind,Sem.run_pure,Result.andThen_ok,IntKind.bits,ne_eq,not_true,if_false]
 exact congrArg (fun n=>Result.ok (Value.int .u64 n) w) (hd _ _ hb)
theorem dJ {P:Program} {t:TypeId} {x y:Operand} {k k':IntKind} {z s:Int} (a n p:Nat) {os:List Own} {fs:List bA} {K:cE} (hz:z=(a:Int)) (hs:s=(n:Int)) (hp:p=2^n) (hn:n≤k.bits)
  (h1:K (.int k ((a/p:Nat):Int)) os fs):pC P .shr t x y (.int k z) (.int k' s) os fs K:=by
 subst hs hz hp
 refine ⟨dD _ (fun w=>?_) h1⟩
 have h0:¬ ((n:Int)<0):=by omega
 have h2:(a:Int).fdiv (2^n)=((a/2^n:Nat):Int):=by
  rw [Int.fdiv_eq_ediv_of_nonneg _ (show (0:Int)≤2^n from Int.pow_nonneg qE)]
  simp
 simp [eqGuard,binOp,Op.shift,h0,Nat.min_eq_left hn,h2]
theorem mul64_core (a b c d:Nat):d+(b+a/4294967296)/4294967296+((b+a/4294967296)%4294967296+c)/4294967296=(a+4294967296*b+4294967296*c+18446744073709551616*d)/18446744073709551616:=by omega
theorem mul64_eq (x y:Nat):x/4294967296*(y/4294967296)+(x/4294967296*(y%4294967296)+x%4294967296*(y%4294967296)/4294967296)/4294967296 +
  ((x/4294967296*(y%4294967296)+x%4294967296*(y%4294967296)/4294967296)%4294967296+x%4294967296*(y/4294967296))/4294967296=x*y/18446744073709551616:=by
 rw [mul64_core]
 congr 1
 have h1:x=x%4294967296+4294967296*(x/4294967296):=(Nat.mod_add_div x 4294967296).symm
 have h2:y=y%4294967296+4294967296*(y/4294967296):=(Nat.mod_add_div y 4294967296).symm
 generalize x%4294967296=x0 at *
 generalize x/4294967296=x1 at *
 generalize y%4294967296=y0 at *
 generalize y/4294967296=y1 at *
 rw [h1,h2]
 simp only [Nat.add_mul,Nat.mul_add]
 have e1:x0*(4294967296*y1)=4294967296*(x0*y1):=Nat.mul_left_comm _ _ _
 have e2:4294967296*x1*y0=4294967296*(x1*y0):=Nat.mul_assoc _ _ _
 have e3:4294967296*x1*(4294967296*y1)=18446744073709551616*(x1*y1):=by
  rw [Nat.mul_assoc,Nat.mul_left_comm x1,← Nat.mul_assoc]
 omega
theorem o4 (x y:Nat) (hx:x<18446744073709551616) (hy:y<18446744073709551616) :
  aY Tryz.prog 172 [.int .u64 (x:Int),.int .u64 (y:Int)] [] (fun r os fs=>os=[]∧fs=[] ∧
   r=.tuple #[.int .u64 ((x*y/18446744073709551616:Nat):Int),.int .u64 ((x*y%18446744073709551616:Nat):Int)]):=by
 have b1:x%4294967296≤4294967295:=by omega
 have b2:x/4294967296≤4294967295:=by omega
 have b3:y%4294967296≤4294967295:=by omega
 have b4:y/4294967296≤4294967295:=by omega
 have m0:x/4294967296*(y/4294967296)≤4294967295*4294967295:=Nat.mul_le_mul b2 b4
 have m1:x/4294967296*(y%4294967296)≤4294967295*4294967295:=Nat.mul_le_mul b2 b3
 have m2:x%4294967296*(y%4294967296)≤4294967295*4294967295:=Nat.mul_le_mul b1 b3
 have m3:x%4294967296*(y/4294967296)≤4294967295*4294967295:=Nat.mul_le_mul b1 b4
 have h3:=mul64_eq x y
 have hxy:x*y<340282366920938463463374607431768211456:=Nat.lt_of_le_of_lt (Nat.mul_le_mul (show x≤18446744073709551615 by omega) (show y≤18446744073709551615 by omega)) qE
 have hs:∀ n:Nat,n<18446744073709551616→IntKind.u64.wrap (n:Int)=(n:Int):=fun n hn=>bT ⟨Int.natCast_nonneg _,by omega⟩
 refine mV Tryz.func172 ?_
 refine iR x 32 4294967296 rfl rfl rfl hx qE ?_
 refine dJ x 32 4294967296 rfl rfl rfl qE ?_
 refine iR y 32 4294967296 rfl rfl rfl hy qE ?_
 refine dJ y 32 4294967296 rfl rfl rfl qE ?_
 generalize x%4294967296=x0 at *
 generalize x/4294967296=x1 at *
 generalize y%4294967296=y0 at *
 generalize y/4294967296=y1 at *
 have k00:=hs (x0*y0) qN
 have k10:=hs (x1*y0) qN
 have k01:=hs (x0*y1) qN
 have k11:=hs (x1*y1) qN
 refine dQ rfl ((x0*y0:Nat):Int) (by rw [← Int.natCast_mul]; exact k00) ?_
 refine dQ rfl ((x1*y0:Nat):Int) (by rw [← Int.natCast_mul]; exact k10) ?_
 refine dJ _ 32 4294967296 rfl rfl rfl qE ?_
 refine dQ rfl ((x1*y0+x0*y0/4294967296:Nat):Int) (by rw [← Int.natCast_add]; exact hs _ qN) ?_
 refine iR _ 32 4294967296 rfl rfl rfl qN qE ?_
 refine dJ _ 32 4294967296 rfl rfl rfl qE ?_
 refine dQ rfl ((x0*y1:Nat):Int) (by rw [← Int.natCast_mul]; exact k01) ?_
 refine dQ rfl (((x1*y0+x0*y0/4294967296)%4294967296+x0*y1:Nat):Int) (by rw [← Int.natCast_add]; exact hs _ qN) ?_
 refine dQ rfl ((x1*y1:Nat):Int) (by rw [← Int.natCast_mul]; exact k11) ?_
 refine dQ rfl ((x1*y1+(x1*y0+x0*y0/4294967296)/4294967296:Nat):Int) (by rw [← Int.natCast_add]; exact hs _ qN) ?_
 refine dJ _ 32 4294967296 rfl rfl rfl qE ?_
 refine dQ rfl ((x*y/18446744073709551616:Nat):Int) (by rw [← h3,← Int.natCast_add]; exact hs _ qN) ?_
 refine dQ rfl ((x*y%18446744073709551616:Nat):Int) (by
  rw [← Int.natCast_mul]
  generalize x*y=q at *
  simp [IntKind.wrap,IntKind.bits,IntKind.signed]) ?_
 exact fin ⟨rfl,rfl,rfl⟩ (bO _ _)
theorem nv_set {l:List Nat} {j s:Nat} (h:j<l.length):nv (l.set j s)+18446744073709551616^j*l.getD j 0=nv l+18446744073709551616^j*s:=by
 have h1:=tB l j
 have h2:=tB (l.set j s) j
 have e1:(l.set j s).take j=l.take j:=by rw [List.take_set_of_le (Nat.le_refl _)]
 have e2:(l.set j s).drop (j+1)=l.drop (j+1):=by rw [List.drop_set_of_lt qN]
 rw [e1,e2,eY h,if_pos rfl] at h2
 rw [h1,h2,Nat.mul_add,Nat.mul_add]
 omega
theorem mul_eq {nl' nl P o s M p c c':Nat} (h1:nl'+P*o=nl+P*s) (h2:nl+P*c=M) (h3:s+18446744073709551616*c'=p+o+c) :
  nl'+P*18446744073709551616*c'=M+P*p:=by
 have:P*s+P*18446744073709551616*c'=P*p+P*o+P*c:=by rw [Nat.mul_assoc,← Nat.mul_add,h3,Nat.mul_add,Nat.mul_add]
 omega
theorem mul_carry {p o c:Nat}:((p%18446744073709551616+o+0)%18446744073709551616+c+0)%18446744073709551616 +
  18446744073709551616*(p/18446744073709551616+(p%18446744073709551616+o+0)/18446744073709551616+((p%18446744073709551616+o+0)%18446744073709551616+c+0)/18446744073709551616)=p+o+c:=by omega
theorem nJ (n:Nat):nv (List.replicate n 0)=0:=by
 induction n with
 | zero=>simp [nv]
 | succ n ih=>simp [List.replicate_succ,nv,ih]
theorem lA (n j:Nat):(List.replicate n 0).getD j 0=0:=by
 simp only [gE,List.getElem?_replicate]; split <;> rfl
theorem mul_meets (va vb:Value) (a b:List Nat) (ha:Lim a) (hb:Lim b) (la:a.length≤1099511627776) (lb:b.length≤1099511627776) :
  aY Tryz.prog 166 [va,vb] [(va,U a),(vb,U b)] (fun r os fs=>os=[]∧fs=[(r,U (b9 (nv a*nv b)))]):=by
 refine mV Tryz.func166 ?_
 refine cG (dI va a) fun va'=>?_
 refine cG (dI vb b) fun vb'=>?_
 rw [d9 ha,d9 hb]
 have hla:=f7 ha
 have hlb:=f7 hb
 have hA:=cK (nv a)
 have hB:=cK (nv b)
 have eA:=dN (nv a)
 have eB:=dN (nv b)
 generalize b9 (nv a)=x at *
 generalize b9 (nv b)=y at *
 refine aS qM fun _=>?_
 refine aS qM fun _=>?_
 refine ar rfl qI ?_
 refine rY (x.length+y.length) qN qN qN qN fun vo ho=>?_
 refine aS qM fun _=>?_
 refine bD (X:=Nat×List Nat) (fun z=>([(1,vb'),(5,vo),(24,va'),(25,.int .i64 (x.length:Nat)),(26,.int .i64 (z.1:Nat))],[j8 vo z.2],[(vb',U y),(va',U x)]))
  (fun z=>z.1≤x.length∧z.2.length=x.length+y.length∧Lim z.2∧nv z.2=nv (x.take z.1)*nv y∧∀ j,z.1+y.length≤j→z.2.getD j 0=0) (fun z=>x.length - z.1) rfl ?_ ?_
 ·exact bB (0,List.replicate (x.length+y.length) 0) ⟨Nat.zero_le _,by simp,Lim.replicate _,by simp [nJ,nv],fun j _=>lA _ _⟩ trivial qF (aD qS)
 ·rintro ⟨i,l0⟩ ⟨h1,h2,h3,h4,h5⟩
  simp only at h1 h2 h3 h4 h5 ⊢
  refine aO _ rfl (fun hc=>?_) (fun hc=>?_)
  ·refine aZ qM i rfl qN fun p=>?_
   refine bF qM ?_
   refine aS qM fun _=>?_
   have hx:=hA.get i
   refine bD (X:=Nat×List Nat×Nat) (fun z=>([(1,vb'),(5,vo),(24,va'),(25,.int .i64 (x.length:Nat)),(26,.int .i64 (i:Nat)),(6,.int .i64 (i:Nat)),(7,.int .u64 (x.getD i 0:Nat)),(8,.int .u64 (z.2.2:Nat)),(31,vb'),(32,.int .i64 (y.length:Nat)),(33,.int .i64 (z.1:Nat))],[j8 vo z.2.1],[(vb',U y),(va',U x)]))
    (fun z=>z.1≤y.length∧z.2.1.length=x.length+y.length∧Lim z.2.1∧z.2.2<18446744073709551616∧nv z.2.1+18446744073709551616^(i+z.1)*z.2.2=nv l0+18446744073709551616^i*(x.getD i 0*nv (y.take z.1))∧∀ j,i+y.length≤j→z.2.1.getD j 0=0) (fun z=>y.length - z.1) rfl ?_ ?_
   ·exact bB (0,l0,0) ⟨Nat.zero_le _,h2,h3,by simp,by simp [nv],h5⟩ trivial qF (aD qS)
   ·rintro ⟨k,l,c⟩ ⟨g1,g2,g3,g4,g5,g6⟩
    simp only at g1 g2 g3 g4 g5 g6 ⊢
    refine aO _ rfl (fun hd=>?_) (fun hd=>?_)
    ·refine aZ qM k rfl qN fun p=>?_
     refine bF qM ?_
     have hy:=hB.get k
     have ho':=g3.get (i+k)
     refine cH (o4 (x.getD i 0) (y.getD k 0) hx hy) ?_
     have hp:x.getD i 0*y.getD k 0≤18446744073709551615*18446744073709551615:=Nat.mul_le_mul qN qN
     refine ar rfl qI ?_
     refine fV 0 rfl ho (i+k) rfl qN ?_
     refine kW 0 rfl (i+k) qN ?_
     refine iC (x.getD i 0*y.getD k 0%18446744073709551616) (l.getD (i+k) 0) 0 rfl rfl rfl qE ?_
     have hpe:nv (y.take (k+1))=nv (y.take k)+18446744073709551616^k*y.getD k 0:=cV y k
     have hxy:18446744073709551616^i*(x.getD i 0*nv (y.take (k+1)))=18446744073709551616^i*(x.getD i 0*nv (y.take k))+18446744073709551616^(i+k)*(x.getD i 0*y.getD k 0):=by
      rw [hpe,Nat.mul_add,Nat.mul_add,Nat.pow_add]
      congr 1
      rw [Nat.mul_assoc]; congr 1; rw [Nat.mul_left_comm]
     generalize x.getD i 0*y.getD k 0=q at *
     have hq:=mul_carry (p:=q) (o:=l.getD (i+k) 0) (c:=c)
     refine dQ rfl ((q/18446744073709551616+(q%18446744073709551616+l.getD (i+k) 0+0)/18446744073709551616:Nat):Int) (by rw [← Int.natCast_add]; exact bT ⟨Int.natCast_nonneg _,by omega⟩) ?_
     refine iC ((q%18446744073709551616+l.getD (i+k) 0+0)%18446744073709551616) c 0 rfl rfl rfl qE ?_
     refine ar rfl qI ?_
     refine dQ rfl ((q/18446744073709551616+(q%18446744073709551616+l.getD (i+k) 0+0)/18446744073709551616+((q%18446744073709551616+l.getD (i+k) 0+0)%18446744073709551616+c+0)/18446744073709551616:Nat):Int) (by rw [← Int.natCast_add]; exact bT ⟨Int.natCast_nonneg _,by omega⟩) ?_
     refine fV 0 rfl ho (i+k) rfl qN ?_
     refine fS 0 rfl _ rfl qN ?_
     refine ar rfl qI ?_
     refine bB (k+1,l.set (i+k) (((q%18446744073709551616+l.getD (i+k) 0+0)%18446744073709551616+c+0)%18446744073709551616),q/18446744073709551616+(q%18446744073709551616+l.getD (i+k) 0+0)/18446744073709551616+((q%18446744073709551616+l.getD (i+k) 0+0)%18446744073709551616+c+0)/18446744073709551616)
      ⟨by omega,by simp [g2],g3.set _ qN,by simp only; omega,?_,fun j hj=>?_⟩ (by simp only; omega) qF (aD qS)
     ·simp only
      rw [hxy,show i+(k+1)=(i+k)+1 by omega,Nat.pow_succ,← Nat.add_assoc]
      exact mul_eq (nv_set qN) g5 hq
     ·simp only
      rw [eY qN,if_neg qN]; exact g6 j hj
    ·have hk:k=y.length:=by omega
     refine aS qM fun _=>?_
     refine ar rfl qI ?_
     refine fV 0 rfl ho (i+y.length) rfl qN ?_
     refine fS 0 rfl c rfl qN ?_
     refine ar rfl qI ?_
     refine bB (i+1,l.set (i+y.length) c) ⟨by omega,by simp [g2],g3.set _ g4,?_,fun j hj=>?_⟩ (by simp only; omega) qF (aD qS)
     ·simp only
      have e1:=nv_set (l:=l) (j:=i+y.length) (s:=c) qN
      rw [g6 _ (Nat.le_refl _)] at e1
      rw [hk,List.take_length] at g5
      rw [cV,Nat.add_mul,← h4,Nat.mul_assoc]
      omega
     ·simp only
      rw [eY qN]
      split
      ·omega
      ·exact g6 j qN
  ·have hi:i=x.length:=by omega
   refine bN (dI vo l0) (Seals.U 0 rfl ho) qS ?_
   rintro r _ _ ⟨rfl,rfl⟩
   exact fin ⟨rfl,rfl⟩ (Seals.cons ((cI qM).cast (by rw [d9 h3,h4,hi,List.take_length,eA,eB])) (bO _ _))
def tabOK (s:ByteArray):Bool:=(List.range 256).all fun y=>match s[y]? with
 | some b=>decide (y<2^b.toNat)&&(b.toNat==0||decide (2^(b.toNat - 1)≤y))&&decide (b.toNat≤8)
 | none=>false
theorem jJ {P:Program} {t:TypeId} {s:ByteArray} {z:Int} {os:List Own} {fs:List bA} {K:cE} (ht:P.underlying t=some .string) (hs:tabOK s=true) (y:Nat) (hz:z=(y:Int)) (hy:y<256)
  (k:∀ b:Nat,y<2^b→(b=0∨2^(b - 1)≤y)→b≤8→K (.int .u8 (b:Int)) os fs):IndexK P t (.string s) (.int .u8 z) os fs K:=by
 subst hz
 have h:=List.all_eq_true.1 hs y (by simpa using hy)
 cases hb:s[y]? with
 | none=>simp [hb] at h
 | some b =>
  simp only [hb,Bool.and_eq_true,Bool.or_eq_true,decide_eq_true_eq,beq_iff_eq] at h
  refine ⟨dD (.int .u8 ((b.toNat:Nat):Int)) (fun w=>?_) (k b.toNat h.1.1 h.1.2 h.2)⟩
  have h0:(0:Int)≤(y:Int):=by omega
  simp [Instr.index,asIntOf,run_underlying ht,h0,hb]
def IsLen (x k:Nat):Prop:=x<2^k∧(k=0∨2^(k - 1)≤x)∧k≤64
theorem kX {x n b:Nat} (h1:x/2^n<2^b) (h2:b=0∨2^(b - 1)≤x/2^n) (h3:n+b≤64) (h4:b=0→n=0):IsLen x (n+b):=by
 have hp:0<2^n:=Nat.pow_pos qE
 refine ⟨?_,?_,h3⟩
 ·rw [Nat.pow_add]
  rw [Nat.div_lt_iff_lt_mul hp] at h1
  rwa [Nat.mul_comm] at h1
 ·rcases h2 with h2 | h2
  ·left; have:=h4 h2; omega
  ·by_cases hb:b=0
   ·left; have:=h4 hb; omega
   ·right
    rw [show n+b - 1=(b - 1)+n by omega,Nat.pow_add]
    exact (Nat.le_div_iff_mul_le hp).1 h2
theorem uU (x:Nat) (hx:x<18446744073709551616) :
  aY Tryz.prog 120 [.int .u64 (x:Int)] [] (fun r os fs=>os=[]∧fs=[]∧∃ k,r=.int .i64 (k:Nat)∧IsLen x k):=by
 refine mV Tryz.func120 ?_
 refine aO _ rfl (fun h1=>?_) (fun h1=>?_)
 ·refine dJ x 32 4294967296 rfl rfl rfl qE ?_
  refine aO _ rfl (fun h2=>?_) (fun h2=>?_)
  ·refine dJ (x/4294967296) 16 65536 rfl rfl rfl qE ?_
   refine ar rfl qI ?_
   refine aO _ rfl (fun h3=>?_) (fun h3=>?_)
   ·refine dJ (x/4294967296/65536) 8 256 rfl rfl rfl qE ?_
    refine ar rfl qI ?_
    refine bJ ⟨_,Tryz.underlying22⟩ Tryz.underlying5 ((x/4294967296/65536/256:Nat):Int) (bT ⟨by omega,by omega⟩) ?_
    refine jJ Tryz.underlying9 qK _ rfl qN fun b b1 b2 b3=>?_
    refine bJ ⟨_,Tryz.underlying5⟩ Tryz.underlying3 (b:Int) (bT ⟨by omega,by omega⟩) ?_
    refine ar rfl qI ?_
    refine fin ⟨rfl,rfl,56+b,rfl,?_⟩ (bO _ _)
    have e:x/4294967296/65536/256=x/2^56:=by rw [Nat.div_div_eq_div_mul,Nat.div_div_eq_div_mul]
    rw [e] at b1 b2
    refine kX b1 b2 qN fun hb=>?_
    subst hb
    rw [← e] at b1
    omega
   ·refine bJ ⟨_,Tryz.underlying22⟩ Tryz.underlying5 ((x/4294967296/65536:Nat):Int) (bT ⟨by omega,by omega⟩) ?_
    refine jJ Tryz.underlying9 qK _ rfl qN fun b b1 b2 b3=>?_
    refine bJ ⟨_,Tryz.underlying5⟩ Tryz.underlying3 (b:Int) (bT ⟨by omega,by omega⟩) ?_
    refine ar rfl qI ?_
    refine fin ⟨rfl,rfl,48+b,rfl,?_⟩ (bO _ _)
    have e:x/4294967296/65536=x/2^48:=by rw [Nat.div_div_eq_div_mul]
    rw [e] at b1 b2
    refine kX b1 b2 qN fun hb=>?_
    subst hb
    rw [← e] at b1
    omega
  ·refine aO _ rfl (fun h3=>?_) (fun h3=>?_)
   ·refine dJ (x/4294967296) 8 256 rfl rfl rfl qE ?_
    refine ar rfl qI ?_
    refine bJ ⟨_,Tryz.underlying22⟩ Tryz.underlying5 ((x/4294967296/256:Nat):Int) (bT ⟨by omega,by omega⟩) ?_
    refine jJ Tryz.underlying9 qK _ rfl qN fun b b1 b2 b3=>?_
    refine bJ ⟨_,Tryz.underlying5⟩ Tryz.underlying3 (b:Int) (bT ⟨by omega,by omega⟩) ?_
    refine ar rfl qI ?_
    refine fin ⟨rfl,rfl,40+b,rfl,?_⟩ (bO _ _)
    have e:x/4294967296/256=x/2^40:=by rw [Nat.div_div_eq_div_mul]
    rw [e] at b1 b2
    refine kX b1 b2 qN fun hb=>?_
    subst hb
    rw [← e] at b1
    omega
   ·refine bJ ⟨_,Tryz.underlying22⟩ Tryz.underlying5 ((x/4294967296:Nat):Int) (bT ⟨by omega,by omega⟩) ?_
    refine jJ Tryz.underlying9 qK _ rfl qN fun b b1 b2 b3=>?_
    refine bJ ⟨_,Tryz.underlying5⟩ Tryz.underlying3 (b:Int) (bT ⟨by omega,by omega⟩) ?_
    refine ar rfl qI ?_
    refine fin ⟨rfl,rfl,32+b,rfl,?_⟩ (bO _ _)
    refine kX (n:=32) b1 b2 qN fun hb=>?_
    subst hb
    omega
 ·refine aO _ rfl (fun h2=>?_) (fun h2=>?_)
  ·refine dJ x 16 65536 rfl rfl rfl qE ?_
   refine ar rfl qI ?_
   refine aO _ rfl (fun h3=>?_) (fun h3=>?_)
   ·refine dJ (x/65536) 8 256 rfl rfl rfl qE ?_
    refine ar rfl qI ?_
    refine bJ ⟨_,Tryz.underlying22⟩ Tryz.underlying5 ((x/65536/256:Nat):Int) (bT ⟨by omega,by omega⟩) ?_
    refine jJ Tryz.underlying9 qK _ rfl qN fun b b1 b2 b3=>?_
    refine bJ ⟨_,Tryz.underlying5⟩ Tryz.underlying3 (b:Int) (bT ⟨by omega,by omega⟩) ?_
    refine ar rfl qI ?_
    refine fin ⟨rfl,rfl,24+b,by simp [tup],?_⟩ (bO _ _)
    have e:x/65536/256=x/2^24:=by rw [Nat.div_div_eq_div_mul]
    rw [e] at b1 b2
    refine kX b1 b2 qN fun hb=>?_
    subst hb
    rw [← e] at b1
    omega
   ·refine bJ ⟨_,Tryz.underlying22⟩ Tryz.underlying5 ((x/65536:Nat):Int) (bT ⟨by omega,by omega⟩) ?_
    refine jJ Tryz.underlying9 qK _ rfl qN fun b b1 b2 b3=>?_
    refine bJ ⟨_,Tryz.underlying5⟩ Tryz.underlying3 (b:Int) (bT ⟨by omega,by omega⟩) ?_
    refine ar rfl qI ?_
    refine fin ⟨rfl,rfl,16+b,by simp [tup],?_⟩ (bO _ _)
    refine kX (n:=16) b1 b2 qN fun hb=>?_
    subst hb
    omega
  ·refine aO _ rfl (fun h3=>?_) (fun h3=>?_)
   ·refine dJ x 8 256 rfl rfl rfl qE ?_
    refine ar rfl qI ?_
    refine bJ ⟨_,Tryz.underlying22⟩ Tryz.underlying5 ((x/256:Nat):Int) (bT ⟨by omega,by omega⟩) ?_
    refine jJ Tryz.underlying9 qK _ rfl qN fun b b1 b2 b3=>?_
    refine bJ ⟨_,Tryz.underlying5⟩ Tryz.underlying3 (b:Int) (bT ⟨by omega,by omega⟩) ?_
    refine ar rfl qI ?_
    refine fin ⟨rfl,rfl,8+b,by simp [tup],?_⟩ (bO _ _)
    refine kX (n:=8) b1 b2 qN fun hb=>?_
    subst hb
    omega
   ·refine bJ ⟨_,Tryz.underlying22⟩ Tryz.underlying5 ((x:Nat):Int) (bT ⟨by omega,by omega⟩) ?_
    refine jJ Tryz.underlying9 qK _ rfl qN fun b b1 b2 b3=>?_
    refine bJ ⟨_,Tryz.underlying5⟩ Tryz.underlying3 (b:Int) (bT ⟨by omega,by omega⟩) ?_
    refine ar rfl qI ?_
    refine fin ⟨rfl,rfl,0+b,by simp [tup],?_⟩ (bO _ _)
    exact kX (n:=0) (by simpa using b1) (by simpa using b2) qN fun _=>rfl
theorem lz64_meets (x:Nat) (hx:x<18446744073709551616) :
  aY Tryz.prog 176 [.int .u64 (x:Int)] [] (fun r os fs=>os=[]∧fs=[]∧∃ k,r=.int .i64 ((64 - k:Nat):Int)∧IsLen x k):=by
 refine mV Tryz.func176 ?_
 refine cF (uU x hx) ?_
 rintro _ _ _ ⟨rfl,rfl,k,rfl,hk⟩
 have:=hk.2.2
 refine ar rfl qI ?_
 exact fin ⟨rfl,rfl,k,by simp only [tup,List.nil_append]; congr 1; omega,hk⟩ (bO _ _)
def bH (n:Nat):Nat:=if n=0 then 0 else n.log2+1
theorem isLen_bitlen {x k:Nat} (h:IsLen x k):k=bH x:=by
 obtain ⟨h1,h2,_⟩:=h
 unfold bH
 split
 ·rename_i h0; subst h0
  rcases h2 with h2 | h2
  ·exact h2
  ·have:=Nat.pow_pos (n:=k - 1) (show 0<2 by decide); omega
 ·rename_i h0
  rcases h2 with h2 | h2
  ·subst h2; simp at h1; omega
  ·have hk:k≠0:=fun e=>by subst e; simp at h1; omega
   have a:=(Nat.le_log2 h0).2 h2
   have b:=(Nat.log2_lt h0).2 h1
   omega
theorem bitlen_lims {l:List Nat} {x:Nat} (hl:Lim l) (hx:x≠0):bH (nv (l++[x]))=64*l.length+bH x:=by
 have h1:=l9 hl
 have hp:0<18446744073709551616^l.length:=Nat.pow_pos qE
 have hv:nv (l++[x])=nv l+18446744073709551616^l.length*x:=by rw [kE]; simp [nv]
 have h2:18446744073709551616^l.length=2^(64*l.length):=by rw [Nat.pow_mul]
 have hne:nv (l++[x])≠0:=by
  have:0<18446744073709551616^l.length*x:=Nat.mul_pos hp qN
  omega
 have hlo:2^(x.log2)≤x:=Nat.log2_self_le hx
 have hhi:x<2^(x.log2+1):=Nat.lt_log2_self
 unfold bH
 rw [if_neg hne,if_neg hx]
 have a:64*l.length+x.log2≤(nv (l++[x])).log2:=by
  rw [Nat.le_log2 hne,Nat.pow_add,← h2,hv]
  have:=Nat.mul_le_mul_left (18446744073709551616^l.length) hlo
  omega
 have b:(nv (l++[x])).log2<64*l.length+(x.log2+1):=by
  rw [Nat.log2_lt hne,Nat.pow_add,← h2,hv]
  have:18446744073709551616^l.length*(x+1)≤18446744073709551616^l.length*2^(x.log2+1):=Nat.mul_le_mul_left _ hhi
  rw [Nat.mul_add] at this
  omega
 omega
theorem sH (v:Value) (a:List Nat) (ha:Lim a) (la:a.length≤1099511627776) :
  aY Tryz.prog 86 [v] [(v,U a)] (fun r os fs=>os=[]∧fs=[]∧r=.int .i64 (bH (nv a):Nat)):=by
 refine mV Tryz.func86 ?_
 refine cG (dI v a) fun v'=>?_
 rw [d9 ha]
 have hla:=f7 ha
 refine aS qM fun _=>?_
 refine aO _ rfl (fun hc=>?_) (fun hc=>?_)
 ·refine fin ⟨rfl,rfl,?_⟩ (bO _ _)
  have:nv a=0:=kI.1 (List.eq_nil_of_length_eq_zero qN)
  simp [this,bH,tup]
 ·have hne:nv a≠0:=fun h=>by rw [h,dU] at hc; simp at hc
  obtain ⟨l,x,h1,h2,h3⟩:=lims_top hne
  have hll:Lim l:=by have:=cK (nv a); rw [h1] at this; exact fun y hy=>this y (by simp [hy])
  have hlen:(b9 (nv a)).length=l.length+1:=by rw [h1]; simp
  have hget:(b9 (nv a)).getD l.length 0=x:=by rw [h1]; simp [gE]
  refine aS qM fun _=>?_
  refine ar rfl qI ?_
  refine ar rfl qI ?_
  refine aS qM fun _=>?_
  refine ar rfl qI ?_
  refine aZ qM l.length qN qN fun p=>?_
  refine bF qM ?_
  rw [hget]
  refine cF (uU x h3) ?_
  rintro _ _ _ ⟨rfl,rfl,k,rfl,hk⟩
  have:=hk.2.2
  refine ar rfl qI ?_
  refine fin ⟨rfl,rfl,?_⟩ (bO _ _)
  have hb:=bitlen_lims hll h2
  rw [← h1,dN] at hb
  rw [hb,← isLen_bitlen hk,hlen]
  simp only [tup,List.nil_append]; congr 1; omega
theorem jF {P:Program} {t:TypeId} {x y:Operand} {k':IntKind} {z s:Int} (a n:Nat) {os:List Own} {fs:List bA} {K:cE} (hz:z=(a:Int)) (hs:s=(n:Int)) (hn:n≤64)
  (h1:K (.int .u64 ((a*2^n%18446744073709551616:Nat):Int)) os fs):pC P .shl t x y (.int .u64 z) (.int k' s) os fs K:=by
 subst hs hz
 refine ⟨dD _ (fun w=>?_) h1⟩
 have h0:¬ ((n:Int)<0):=by omega
 have hb:min n IntKind.u64.bits=n:=Nat.min_eq_left hn
 have h2:IntKind.u64.wrap ((a:Int)*2^n)=((a*2^n%18446744073709551616:Nat):Int):=by
  have:(a:Int)*2^n=((a*2^n:Nat):Int):=by simp
  rw [this]
  generalize a*2^n=q
  simp [IntKind.wrap,IntKind.bits,IntKind.signed]
 simp [eqGuard,binOp,Op.shift,h0,hb,h2]
theorem nI {P:Program} {t:TypeId} {x y:Operand} {z u:Int} (a b:Nat) {os:List Own} {fs:List bA} {K:cE} (hz:z=(a:Int)) (hu:u=(b:Int)) (ha:a<18446744073709551616) (hb:b<18446744073709551616)
  (h1:K (.int .u64 ((a ||| b:Nat):Int)) os fs):pC P .or t x y (.int .u64 z) (.int .u64 u) os fs K:=by
 subst hz hu
 refine ⟨dD _ (fun w=>?_) h1⟩
 have hlt:a ||| b<2^64:=Nat.or_lt_two_pow ha hb
 have hb':(BitVec.ofInt 64 (a:Int) ||| BitVec.ofInt 64 (b:Int)).toNat=a ||| b:=by
  rw [BitVec.toNat_or]
  have e1:(BitVec.ofInt 64 (a:Int)).toNat=a:=by rw [BitVec.toNat_ofInt]; omega
  have e2:(BitVec.ofInt 64 (b:Int)).toNat=b:=by rw [BitVec.toNat_ofInt]; omega
  rw [e1,e2]
 have hd:∀ X Y:BitVec 64,(X ||| Y).toNat=a ||| b→IntKind.u64.wrap ((X ||| Y).toNat:Int)=((a ||| b:Nat):Int):=fun X Y h=>by
  rw [h]; exact bT ⟨Int.natCast_nonneg _,by omega⟩
 simp only [eqGuard,binOp,Op.intBits,Sem.run_bind,Sem.run_pure,Result.andThen_ok,IntKind.bits,ne_eq,not_true,if_false]
 exact congrArg (fun n=>Result.ok (Value.int .u64 n) w) (hd _ _ hb')
theorem nA {s:Nat} (h:s≤64):2^s*2^(64 - s)=18446744073709551616:=by
 rw [← Nat.pow_add,show s+(64 - s)=64 by omega]
theorem shl_low {x s:Nat} (h:s≤64):x*2^s%18446744073709551616=2^s*(x%2^(64 - s)):=by
 rw [← nA h,Nat.mul_comm x,Nat.mul_mod_mul_left]
theorem shl_high {x s:Nat} (h:s≤64):x*2^s/18446744073709551616=x/2^(64 - s):=by
 rw [← nA h,Nat.mul_comm x,Nat.mul_div_mul_left _ _ (Nat.pow_pos qE)]
def far (n:Int):Nat:=(max 0 (min n 8192)).toNat
theorem shl_or {o x s:Nat} (hs:s≤64) (ho:o<2^s):o ||| (x*2^s%18446744073709551616)=o+x*2^s%18446744073709551616:=by
 rw [shl_low hs,Nat.or_comm,← Nat.two_pow_add_eq_or_of_lt ho,Nat.add_comm]
theorem shl_lt {x s:Nat} (hs:s<64) (hx:x<18446744073709551616):x/2^(64 - s)<2^s:=by
 rw [Nat.div_lt_iff_lt_mul (Nat.pow_pos qE),nA qN]; exact hx
theorem shl_eq {N P q D o s1 n1 n2:Nat} (h1:n1+P*o=N+P*(o+q%18446744073709551616)) (h2:n2+P*18446744073709551616*0=n1+P*18446744073709551616*s1) (hs:s1=q/18446744073709551616) (hD:D=P*q) :
  n2=N+D:=by
 have:=Nat.mod_add_div q 18446744073709551616
 subst hs hD
 rw [Nat.mul_add] at h1
 have e:P*q=P*(q%18446744073709551616)+P*18446744073709551616*(q/18446744073709551616):=by
  rw [Nat.mul_assoc,← Nat.mul_add,this]
 omega
theorem pJ (v:Value) (a:List Nat) (n:Int) (ha:Lim a) (la:a.length≤1099511627776) :
  aY Tryz.prog 129 [v,.int .i64 n] [(v,U a)] (fun r os fs=>os=[]∧fs=[(r,U (b9 (nv a*2^far n)))]):=by
 refine mV Tryz.func129 ?_
 refine cG (dI v a) fun v'=>?_
 rw [d9 ha]
 have hla:=f7 ha
 have hA:=cK (nv a)
 have eA:=dN (nv a)
 generalize b9 (nv a)=x at *
 refine gJ ?_
 refine nK ?_
 have hK:max 0 (min n 8192)=(far n:Int):=by unfold far; omega
 have hK2:far n≤8192:=by unfold far; omega
 rw [hK]
 generalize far n=K at *
 refine dJ K 6 64 rfl rfl rfl qE ?_
 refine bJ ⟨_,Tryz.underlying3⟩ Tryz.underlying92 (K:Int) (bT ⟨by omega,by omega⟩) ?_
 refine iR K 6 64 rfl rfl rfl qN qE ?_
 have hr:K%64<64:=Nat.mod_lt _ qE
 have hKe:64*(K/64)+K%64=K:=Nat.div_add_mod K 64
 have hpow:2^K=18446744073709551616^(K/64)*2^(K%64):=by rw [show (18446744073709551616:Nat)=2^64 from rfl,← Nat.pow_mul,← Nat.pow_add,hKe]
 have hwd:K/64≤128:=by omega
 generalize K/64=wd at *
 generalize K%64=s at *
 refine aS qM fun _=>?_
 refine ar rfl qI ?_
 refine ar rfl qI ?_
 refine rY (x.length+wd+1) qN qN qN qN fun vo ho=>?_
 refine aS qM fun _=>?_
 refine bD (X:=Nat×List Nat) (fun z=>([(5,.int .i64 (wd:Nat)),(6,.int .u64 (s:Nat)),(7,vo),(26,v'),(27,.int .i64 (x.length:Nat)),(28,.int .i64 (z.1:Nat))],[j8 vo z.2],[(v',U x)]))
  (fun z=>z.1≤x.length∧z.2.length=x.length+wd+1∧Lim z.2∧nv z.2=nv (x.take z.1)*2^K∧z.2.getD (z.1+wd) 0<2^s∧∀ j,z.1+wd<j→z.2.getD j 0=0) (fun z=>x.length - z.1) rfl ?_ ?_
 ·exact bB (0,List.replicate (x.length+wd+1) 0) ⟨Nat.zero_le _,by simp,Lim.replicate _,by simp [nJ,nv],by simp only [lA]; exact Nat.pow_pos qE,fun j _=>lA _ _⟩ trivial qF (aD qS)
 ·rintro ⟨i,l⟩ ⟨h1,h2,h3,h4,h5,h6⟩
  simp only at h1 h2 h3 h4 h5 h6 ⊢
  refine aO _ rfl (fun hc=>?_) (fun hc=>?_)
  ·have hx:=hA.get i
   refine aZ qM i rfl qN fun p=>?_
   refine bF qM ?_
   refine ar rfl qI ?_
   refine fV 0 rfl ho (i+wd) rfl qN ?_
   refine kW 0 rfl (i+wd) qN ?_
   refine jF (x.getD i 0) s rfl rfl qN ?_
   refine nI _ _ rfl rfl (h3.get _) (Nat.mod_lt _ qE) ?_
   rw [shl_or qN h5]
   have hsum:l.getD (i+wd) 0+x.getD i 0*2^s%18446744073709551616<18446744073709551616:=by
    rw [← shl_or qN h5]
    exact Nat.or_lt_two_pow (n:=64) (h3.get _) (Nat.mod_lt _ qE)
   refine fV 0 rfl ho (i+wd) rfl qN ?_
   refine fS 0 rfl _ rfl qN ?_
   have hval:nv (x.take (i+1))*2^K=nv (x.take i)*2^K+18446744073709551616^(i+wd)*(x.getD i 0*2^s):=by
    rw [cV,Nat.add_mul,hpow,Nat.pow_add]
    congr 1
    generalize 18446744073709551616^i=A1
    generalize 18446744073709551616^wd=A2
    generalize x.getD i 0=A3
    generalize 2^s=A4
    rw [Nat.mul_assoc,Nat.mul_assoc]; congr 1; rw [Nat.mul_left_comm]
   have e1:=nv_set (l:=l) (j:=i+wd) (s:=l.getD (i+wd) 0+x.getD i 0*2^s%18446744073709551616) qN
   refine aO _ rfl (fun hd=>?_) (fun hd=>?_)
   ·refine ar rfl qI ?_
    refine ar rfl qI ?_
    refine ar rfl qI ?_
    refine dJ (x.getD i 0) (64 - s) (2^(64 - s)) rfl qN rfl (by simp [IntKind.bits]) ?_
    refine fV 0 rfl ho (i+wd+1) rfl (by simp; omega) ?_
    refine fS 0 rfl _ rfl (by simp; omega) ?_
    refine ar rfl qI ?_
    have hlt:=shl_lt (x:=x.getD i 0) (s:=s) qN hx
    have e2:=nv_set (l:=l.set (i+wd) (l.getD (i+wd) 0+x.getD i 0*2^s%18446744073709551616)) (j:=i+wd+1) (s:=x.getD i 0/2^(64 - s)) (by simp; omega)
    rw [eY qN,if_neg qN,h6 (i+wd+1) qN,Nat.pow_succ] at e2
    refine bB (i+1,(l.set (i+wd) (l.getD (i+wd) 0+x.getD i 0*2^s%18446744073709551616)).set (i+wd+1) (x.getD i 0/2^(64 - s))) ⟨by omega,by simp [h2],(h3.set _ hsum).set _ (by
     have:x.getD i 0/2^(64 - s)≤x.getD i 0:=Nat.div_le_self _ _
     omega),?_,?_,fun j hj=>?_⟩ (by simp only; omega) qF (aD qS)
    ·simp only
     rw [hval,← h4]
     exact shl_eq e1 e2 (shl_high qN).symm rfl
    ·simp only
     rw [show i+1+wd=i+wd+1 by omega,eY (by simp; omega),if_pos rfl]; exact hlt
    ·simp only
     rw [eY (by simp; omega),if_neg qN,eY qN,if_neg qN]; exact h6 j qN
   ·have hs0:s=0:=by omega
    subst hs0
    refine ar rfl qI ?_
    refine bB (i+1,l.set (i+wd) (l.getD (i+wd) 0+x.getD i 0*2^0%18446744073709551616)) ⟨by omega,by simp [h2],h3.set _ hsum,?_,?_,fun j hj=>?_⟩ (by simp only; omega) qF (aD qS)
    ·simp only
     rw [hval,← h4]
     rw [Nat.mul_add] at e1
     rw [Nat.pow_zero,Nat.mul_one] at e1 ⊢
     rw [Nat.mod_eq_of_lt hx] at e1 ⊢
     omega
    ·simp only
     rw [eY qN,if_neg qN,h6 _ qN]; decide
    ·simp only
     rw [eY qN,if_neg qN]; exact h6 j qN
  ·have hi:i=x.length:=by omega
   refine bN (dI vo l) (Seals.U 0 rfl ho) qS ?_
   rintro r _ _ ⟨rfl,rfl⟩
   exact fin ⟨rfl,rfl⟩ (Seals.cons ((cI qM).cast (by rw [d9 h3,h4,hi,List.take_length,eA])) (bO _ _))
theorem nv_drop (l:List Nat) (k:Nat) (h:Lim l):nv (l.drop k)=nv l/18446744073709551616^k:=by
 have h1:nv l=nv (l.take k)+18446744073709551616^k*nv (l.drop k):=by
  by_cases hk:k≤l.length
  ·have:=kE (l.take k) (l.drop k)
   rw [List.take_append_drop] at this
   have hl:(l.take k).length=k:=by simp; omega
   rw [hl] at this
   exact this
  ·rw [List.take_of_length_le qN,List.drop_eq_nil_of_le qN]; simp [nv]
 have h2:nv (l.take k)<18446744073709551616^k:=by
  refine Nat.lt_of_lt_of_le (l9 (h.take k)) (Nat.pow_le_pow_right qE ?_)
  simp; omega
 rw [h1,Nat.add_mul_div_left _ _ (Nat.pow_pos qE),Nat.div_eq_of_lt h2,Nat.zero_add]
theorem shr_or {c d s:Nat} (hs:s<64) (hc:c<18446744073709551616):c/2^s ||| (d*2^(64 - s)%18446744073709551616)=c/2^s+2^(64 - s)*(d%2^s):=by
 have h1:c/2^s<2^(64 - s):=by
  rw [Nat.div_lt_iff_lt_mul (Nat.pow_pos qE),Nat.mul_comm,nA qN]; exact hc
 rw [shl_or (s:=64 - s) qN h1,shl_low qN,show 64 - (64 - s)=s by omega]
theorem shr_eq {T S c0 P ci cj M:Nat} {s:Nat} (hs:s≤64) (hM:M=2^s) (h:T*M+c0=S+P*(ci%M)) :
  (T+P*(ci/M+2^(64 - s)*(cj%M)))*M+c0=(S+P*ci)+P*18446744073709551616*(cj%M):=by
 have h1:=Nat.mod_add_div ci M
 have h2:P*(ci/M+2^(64 - s)*(cj%M))*M=P*(M*(ci/M))+P*18446744073709551616*(cj%M):=by
  rw [← nA hs,← hM,Nat.mul_add,Nat.add_mul]
  generalize 2^(64 - s)=R
  generalize cj%M=y
  generalize ci/M=z
  rw [Nat.mul_assoc P z M,Nat.mul_comm z M]
  congr 1
  rw [Nat.mul_assoc,Nat.mul_assoc P (M*R) y]; congr 1
  rw [Nat.mul_comm (R*y) M,← Nat.mul_assoc]
 rw [Nat.add_mul,h2]
 have h3:P*ci=P*(ci%M)+P*(M*(ci/M)):=by rw [← Nat.mul_add,h1]
 omega
theorem shr_meets (v:Value) (a:List Nat) (n:Int) (ha:Lim a) (la:a.length≤1099511627776) :
  aY Tryz.prog 131 [v,.int .i64 n] [(v,U a)] (fun r os fs=>os=[]∧fs=[(r,U (b9 (nv a/2^far n)))]):=by
 refine mV Tryz.func131 ?_
 refine cG (dI v a) fun v'=>?_
 rw [d9 ha]
 have hla:=f7 ha
 have hA:=cK (nv a)
 have eA:=dN (nv a)
 generalize b9 (nv a)=x at *
 refine gJ ?_
 refine nK ?_
 have hK:max 0 (min n 8192)=(far n:Int):=by unfold far; omega
 have hK2:far n≤8192:=by unfold far; omega
 rw [hK]
 generalize far n=K at *
 refine dJ K 6 64 rfl rfl rfl qE ?_
 refine bJ ⟨_,Tryz.underlying3⟩ Tryz.underlying92 (K:Int) (bT ⟨by omega,by omega⟩) ?_
 refine iR K 6 64 rfl rfl rfl qN qE ?_
 have hr:K%64<64:=Nat.mod_lt _ qE
 have hKe:64*(K/64)+K%64=K:=Nat.div_add_mod K 64
 have hpow:2^K=18446744073709551616^(K/64)*2^(K%64):=by rw [show (18446744073709551616:Nat)=2^64 from rfl,← Nat.pow_mul,← Nat.pow_add,hKe]
 have hwd:K/64≤128:=by omega
 have hq:nv a/2^K=nv (x.drop (K/64))/2^(K%64):=by rw [hpow,← Nat.div_div_eq_div_mul,nv_drop _ _ hA,eA]
 generalize K/64=wd at *
 generalize K%64=s at *
 refine aS qM fun _=>?_
 refine aO _ rfl (fun hc=>?_) (fun hc=>?_)
 ·refine fin ⟨rfl,rfl⟩ (Seals.cons ((Knw.nil 1 (UE [])).cast ?_) (bO _ _))
  rw [hq,List.drop_eq_nil_of_le qN,show nv []=0 from rfl,Nat.zero_div,dU]
  rfl
 ·refine n7 (kl:=.i64) (kh:=.i64) qM wd x.length _ _ (.inr rfl) (.inl ⟨rfl,rfl⟩) qN qN fun u=>?_
  have hdl:(x.drop wd).length=x.length - wd:=by simp
  refine bN (cfs:=[(u,U (x.drop wd))]) (o7 u (x.drop wd) qN) (Seals.add (((cI (List.Mem.head _)).sl_cong (e':=UE (x.drop wd)) fun i hi=>?_).cast (show Dat.sl 1 (x.length - wd) (UE (x.drop wd))=U (x.drop wd) by rw [U,hdl]; rfl))) qS ?_
  ·simp only [UE,gE,List.getElem?_drop]
  rintro vc _ _ ⟨rfl,hvc,rfl⟩
  have hC:Lim (x.drop wd):=hA.drop wd
  have hget:∀ j,(x.drop wd).getD j 0=x.getD (j+wd) 0:=fun j=>by simp [gE,List.getElem?_drop,Nat.add_comm]
  rw [hq]
  generalize hy:x.drop wd=y at *
  refine len_U 0 rfl hvc fun _=>?_
  refine bD (X:=Nat×List Nat) (fun z=>([(0,v'),(5,.int .i64 (wd:Nat)),(6,.int .u64 (s:Nat)),(7,vc),(28,.int .i64 (y.length:Nat)),(29,.int .i64 (z.1:Nat))],[j8 vc z.2],[(v',U x)]))
   (fun z=>z.1≤y.length∧z.2.length=y.length∧Lim z.2∧(∀ j,z.1≤j→z.2.getD j 0=y.getD j 0)∧nv (z.2.take z.1)*2^s+y.getD 0 0%2^s=nv (y.take z.1)+18446744073709551616^z.1*(y.getD z.1 0%2^s)) (fun z=>y.length - z.1) rfl ?_ ?_
  ·exact bB (0,y) ⟨Nat.zero_le _,rfl,hC,fun _ _=>rfl,by simp [nv]⟩ trivial qF (aD qS)
  ·rintro ⟨i,l⟩ ⟨h1,h2,h3,h4,h5⟩
   simp only at h1 h2 h3 h4 h5 ⊢
   have hr64:s<64:=hr
   refine aO _ rfl (fun hc2=>?_) (fun hc2=>?_)
   ·have hyi:=hC.get i
    have hyj:=hC.get (i+1)
    refine fV 0 rfl hvc i rfl qN ?_
    refine kW 0 rfl i qN ?_
    rw [h4 i (Nat.le_refl _)]
    refine dJ (y.getD i 0) s (2^s) rfl rfl rfl (by simp [IntKind.bits]; omega) ?_
    refine fV 0 rfl hvc i rfl qN ?_
    refine fS 0 rfl _ rfl qN ?_
    have hlow:y.getD i 0/2^s≤y.getD i 0:=Nat.div_le_self _ _
    have key:∀ val,val=y.getD i 0/2^s+2^(64 - s)*(y.getD (i+1) 0%2^s)→nv ((l.set i val).take (i+1))*2^s+y.getD 0 0%2^s=nv (y.take (i+1))+18446744073709551616^(i+1)*(y.getD (i+1) 0%2^s):=fun val hv=>by
     rw [fL qN,cV,Nat.pow_succ,hv]
     exact shr_eq qN rfl h5
    refine aO _ rfl (fun hd=>?_) (fun hd=>?_)
    ·refine ar rfl qI ?_
     refine ar rfl qI ?_
     refine aS qM fun _=>?_
     refine aO _ rfl (fun he=>?_) (fun he=>?_)
     ·refine bC [0,1,2,3,4,5,6,7,8,9,10,11,12,13,14,15,16] [0,1,2,3,4,5,6,7,8,9,10,11,12,13,14,15,16] qK qK ?_
      refine fV 0 rfl hvc i rfl (by simp; omega) ?_
      refine kW 0 rfl i (by simp; omega) ?_
      rw [eY qN,if_pos rfl]
      refine ar rfl qI ?_
      refine ar rfl qI ?_
      refine aZ qM (i+1+wd) qN qN fun p=>?_
      refine bF qM ?_
      rw [← hget (i+1)]
      refine ar rfl qI ?_
      refine jF (y.getD (i+1) 0) (64 - s) rfl qN qN ?_
      refine nI _ _ rfl rfl qN (Nat.mod_lt _ qE) ?_
      have hlt:y.getD i 0/2^s ||| y.getD (i+1) 0*2^(64 - s)%18446744073709551616<18446744073709551616:=Nat.or_lt_two_pow (n:=64) qN (Nat.mod_lt _ qE)
      refine fV 0 rfl hvc i rfl (by simp; omega) ?_
      refine fS 0 rfl _ rfl (by simp; omega) ?_
      refine ar rfl qI ?_
      refine bB (i+1,(l.set i (y.getD i 0/2^s)).set i (y.getD i 0/2^s ||| y.getD (i+1) 0*2^(64 - s)%18446744073709551616)) ⟨by omega,by simp [h2],(h3.set _ qN).set _ hlt,fun j hj=>?_,?_⟩ (by simp only; omega) qF (aD qS)
      ·simp only at hj ⊢
       rw [eY (by simp; omega),if_neg qN,eY qN,if_neg qN]; exact h4 j qN
      ·simp only
       rw [List.set_set]
       exact key _ (shr_or hr64 hyi)
     ·refine ar rfl qI ?_
      refine bB (i+1,l.set i (y.getD i 0/2^s)) ⟨by omega,by simp [h2],h3.set _ qN,fun j hj=>?_,?_⟩ (by simp only; omega) qF (aD qS)
      ·simp only at hj ⊢
       rw [eY qN,if_neg qN]; exact h4 j qN
      ·simp only
       refine key _ ?_
       rw [gU (l:=y) (i:=i+1) qN]; simp
    ·have hs0:s=0:=by omega
     refine ar rfl qI ?_
     refine bB (i+1,l.set i (y.getD i 0/2^s)) ⟨by omega,by simp [h2],h3.set _ qN,fun j hj=>?_,?_⟩ (by simp only; omega) qF (aD qS)
     ·simp only at hj ⊢
      rw [eY qN,if_neg qN]; exact h4 j qN
     ·simp only
      refine key _ ?_
      subst hs0
      simp [Nat.mod_one]
   ·have hi:i=y.length:=by omega
    refine bN (dI vc l) (Seals.U 0 rfl hvc) qS ?_
    rintro r _ _ ⟨rfl,rfl⟩
    refine fin ⟨rfl,rfl⟩ (Seals.cons ((cI qM).cast ?_) (bO _ _))
    rw [d9 h3]
    congr 2
    rw [hi,List.take_length,List.take_of_length_le qN,gU (l:=y) (i:=y.length) qN] at h5
    rw [Nat.zero_mod,Nat.mul_zero,Nat.add_zero] at h5
    rw [← h5,Nat.add_comm,Nat.add_mul_div_right _ _ (Nat.pow_pos qE),Nat.div_eq_of_lt (Nat.mod_lt _ (Nat.pow_pos qE)),Nat.zero_add]
def cutQ {Y:Type} (id:Nat) (J:Y→Fr×List Own×List bA) (okJ:Y→Prop) (Q:iX):iX
 | .exit i=>match Nat.beq i id with
  | true=>fun f os fs=>AtK J okJ f os fs fun _=>True
  | false=>Q (.exit i)
 | e=>Q e
theorem loop_cut {P:Program} {N:Nat} {c:Code} {f:Fr} {os:List Own} {fs:List bA} {Q:iX} {Y:Type} (id:Nat) (J:Y→Fr×List Own×List bA) (okJ:Y→Prop)
  (h1:LoopK P N c f os fs (cutQ id J okJ Q)) (h2:∀ y,okJ y→Q (.exit id) (J y).1 (J y).2.1 (J y).2.2):LoopK P N c f os fs Q:=by
 refine ⟨fun G r hr a w hk hw=>wpIn_mono (h1.out G r hr a w hk hw) ?_⟩
 rintro e a' w' ⟨G',hx,f',os',fs',hk',hw',hq⟩
 cases e with
 | exit i =>
  simp only [cutQ] at hq
  cases hb:Nat.beq i id with
  | true =>
   simp only [hb] at hq
   obtain ⟨⟨y,hy,_,g1,g2⟩⟩:=hq
   have:=Nat.eq_of_beq_eq_true hb
   subst this
   exact ⟨G',hx,_,_,_,hk'.sub g1,g2 G' w' hw',h2 y hy⟩
  | false=>simp only [hb] at hq; exact ⟨G',hx,f',os',fs',hk',hw',hq⟩
 | normal=>exact ⟨G',hx,f',os',fs',hk',hw',hq⟩
 | goto l=>exact ⟨G',hx,f',os',fs',hk',hw',hq⟩
 | ret=>exact ⟨G',hx,f',os',fs',hk',hw',hq⟩
 | panic ch=>exact ⟨G',hx,f',os',fs',hk',hw',hq⟩
 | outgrown=>exact ⟨G',hx,f',os',fs',hk',hw',hq⟩
structure DivStep (u y y1 y0 u1 q:Nat):Prop where
 hy:y=y1*4294967296+y0
 h1:2147483648≤y1
 h2:y1<4294967296
 h3:y0<4294967296
 h4:u<y
 h5:u1<4294967296
 hq:q=(u*4294967296+u1)/y
theorem DivStep.lt {u y y1 y0 u1 q:Nat} (h:DivStep u y y1 y0 u1 q):q<4294967296:=by
 rw [h.hq,Nat.div_lt_iff_lt_mul (by have:=h.h4; omega)]
 have:=Nat.mul_le_mul_right 4294967296 (Nat.succ_le_of_lt h.h4)
 have:=h.h5
 have e:u.succ*4294967296=u*4294967296+4294967296:=Nat.succ_mul _ _
 rw [Nat.mul_comm 4294967296 y]
 omega
theorem DivStep.first {u y y1 y0 u1 q:Nat} (h:DivStep u y y1 y0 u1 q):q≤u/y1∧u/y1≤4294967297:=by
 obtain ⟨hy,h1,h2,h3,h4,h5,hq⟩:=h
 have hd:=Nat.div_add_mod u y1
 have hm:=Nat.mod_lt u (show 0<y1 by omega)
 generalize u/y1=g at *
 generalize u%y1=r at *
 constructor
 ·rw [hq]
  refine Nat.le_of_lt_succ ((Nat.div_lt_iff_lt_mul qN).2 ?_)
  have e1:(g+1)*y1=y1*g+y1:=by rw [Nat.add_mul,Nat.mul_comm]; omega
  have e2:(g+1)*y=(g+1)*y1*4294967296+(g+1)*y0:=by rw [hy,Nat.mul_add,Nat.mul_assoc]
  have e3:(u+1)*4294967296≤(g+1)*y1*4294967296:=Nat.mul_le_mul_right _ qN
  rw [Nat.succ_eq_add_one,e2]
  omega
 ·refine Nat.le_of_lt_succ (Nat.lt_of_mul_lt_mul_left (a:=y1) ?_)
  have:y1*(4294967297+1)=y1*4294967296+2*y1:=by omega
  omega
theorem DivStep.high {u y y1 y0 u1 q g r:Nat} (h:DivStep u y y1 y0 u1 q) (hg:g*y1+r=u) (ht:4294967296*r+u1<g*y0):q<g:=by
 obtain ⟨hy,h1,h2,h3,h4,h5,hq⟩:=h
 rw [hq,Nat.div_lt_iff_lt_mul qN,hy,Nat.mul_add,← Nat.mul_assoc,← hg,Nat.add_mul]
 omega
theorem DivStep.low {u y y1 y0 u1 q g r:Nat} (h:DivStep u y y1 y0 u1 q) (hg:g*y1+r=u) (ht:g*y0≤4294967296*r+u1):g≤q:=by
 obtain ⟨hy,h1,h2,h3,h4,h5,hq⟩:=h
 rw [hq,Nat.le_div_iff_mul_le qN,hy,Nat.mul_add,← Nat.mul_assoc,← hg,Nat.add_mul]
 omega
theorem norm_top {y k:Nat} (h:IsLen y k) (hy:y≠0):y*2^(64 - k)<18446744073709551616∧9223372036854775808≤y*2^(64 - k):=by
 obtain ⟨h1,h2,h3⟩:=h
 have hk:k≠0:=fun e=>by subst e; simp at h1; omega
 have h2':2^(k - 1)≤y:=h2.resolve_left hk
 have hp:0<2^(64 - k):=Nat.pow_pos qE
 constructor
 ·have:y*2^(64 - k)<2^k*2^(64 - k):=Nat.mul_lt_mul_of_pos_right h1 hp
  rwa [← Nat.pow_add,show k+(64 - k)=64 by omega] at this
 ·have:2^(k - 1)*2^(64 - k)≤y*2^(64 - k):=Nat.mul_le_mul_right _ h2'
  rwa [← Nat.pow_add,show k - 1+(64 - k)=63 by omega] at this
theorem dA (n:Int):IntKind.u64.wrap n=n%18446744073709551616:=by simp [IntKind.wrap,IntKind.bits,IntKind.signed]
theorem div_final {hi lo y q1 q0 r1 r0 un32 un1 un0 S:Nat} (hS:0<S) (hu:un32*18446744073709551616+(un1*4294967296+un0)=(hi*18446744073709551616+lo)*S)
  (h1:q1*(y*S)+r1=un32*4294967296+un1) (h0:q0*(y*S)+r0=r1*4294967296+un0) (hr:r0<y*S) :
  q1*4294967296+q0=(hi*18446744073709551616+lo)/y∧r0/S=(hi*18446744073709551616+lo)%y:=by
 have hy:0<y:=Nat.pos_of_ne_zero fun e=>by subst e; simp at hr
 have key:(hi*18446744073709551616+lo)*S=(q1*4294967296+q0)*(y*S)+r0:=by
  rw [← hu,Nat.add_mul,Nat.mul_right_comm]
  omega
 have hd:(hi*18446744073709551616+lo)*S/(y*S)=(hi*18446744073709551616+lo)/y:=Nat.mul_div_mul_right _ _ hS
 have hm:(hi*18446744073709551616+lo)*S%(y*S)=(hi*18446744073709551616+lo)%y*S:=Nat.mul_mod_mul_right _ _ _
 rw [key] at hd hm
 rw [Nat.mul_comm (q1*4294967296+q0) (y*S),Nat.mul_add_div (Nat.mul_pos hy hS),Nat.div_eq_of_lt hr,Nat.add_zero] at hd
 rw [Nat.mul_comm (q1*4294967296+q0) (y*S),Nat.mul_add_mod,Nat.mod_eq_of_lt hr] at hm
 exact ⟨hd,by rw [hm,Nat.mul_div_cancel _ hS]⟩
theorem vD (hi lo y:Nat) (h1:hi<y) (h2:lo<18446744073709551616) (h3:y<18446744073709551616) :
  aY Tryz.prog 175 [.int .u64 (hi:Int),.int .u64 (lo:Int),.int .u64 (y:Int)] [] (fun r os fs=>os=[]∧fs=[] ∧
   r=.tuple #[.int .u64 (((hi*18446744073709551616+lo)/y:Nat):Int),.int .u64 (((hi*18446744073709551616+lo)%y:Nat):Int)]):=by
 refine mV Tryz.func175 ?_
 refine aL rfl qN ?_
 refine aL rfl qN ?_
 refine aO _ rfl (fun hc=>?_) (fun hc=>?_)
 ·have h0:hi=0:=by omega
  subst h0
  refine bC [0,1,2,3,4,5,6,7] [0,1,2,6,3,4,5,7] qK qK ?_
  have hdl:lo/y≤lo:=Nat.div_le_self _ _
  refine gH qN qN (by rw [← Int.natCast_ediv]; exact ⟨Int.natCast_nonneg _,by omega⟩) ?_
  refine sZ qN qN ?_
  refine fin ⟨rfl,rfl,?_⟩ (bO _ _)
  simp [tup]
 ·refine cF (lz64_meets y h3) ?_
  rintro _ _ _ ⟨rfl,rfl,k,rfl,hk⟩
  have hk64:=hk.2.2
  have hnt:=norm_top hk qN
  have hs64:64 - k<64:=by
   have:k≠0:=fun e=>by have:=hk.1; rw [e] at this; simp at this; omega
   omega
  generalize 64 - k=s at *
  refine bJ ⟨_,Tryz.underlying3⟩ Tryz.underlying92 (s:Int) (bT ⟨by omega,by omega⟩) ?_
  have hSp:0<2^s:=Nat.pow_pos qE
  have hhi:hi*2^s<y*2^s:=Nat.mul_lt_mul_of_pos_right h1 hSp
  refine jF y s rfl rfl qN ?_
  rw [Nat.mod_eq_of_lt hnt.1]
  refine dJ (y*2^s) 32 4294967296 rfl rfl rfl qE ?_
  refine iR (y*2^s) 32 4294967296 rfl rfl rfl hnt.1 qE ?_
  refine jF hi s rfl rfl qN ?_
  rw [Nat.mod_eq_of_lt (Nat.lt_trans hhi hnt.1)]
  refine ar rfl qI ?_
  refine dJ lo (64 - s) (2^(64 - s)) rfl qN rfl (by simp [IntKind.bits]) ?_
  have hlolt:=shl_lt hs64 h2
  have hor:hi*2^s ||| lo/2^(64 - s)=hi*2^s+lo/2^(64 - s):=by rw [Nat.mul_comm hi,← Nat.two_pow_add_eq_or_of_lt hlolt]
  refine nI _ _ rfl rfl qN (by have:lo/2^(64 - s)≤lo:=Nat.div_le_self _ _; omega) ?_
  rw [hor]
  refine jF lo s rfl rfl qN ?_
  have hun:(hi*2^s+lo/2^(64 - s))*18446744073709551616+lo*2^s%18446744073709551616=(hi*18446744073709551616+lo)*2^s:=by
   rw [← shl_high (x:=lo) (by omega:s≤64),Nat.add_mul,Nat.add_mul,Nat.mul_right_comm hi]
   have:=Nat.div_add_mod (lo*2^s) 18446744073709551616
   generalize lo*2^s=Z at *
   omega
  have hult:hi*2^s+lo/2^(64 - s)<y*2^s:=by
   have:(hi+1)*2^s≤y*2^s:=Nat.mul_le_mul_right _ h1
   rw [Nat.add_mul] at this
   omega
  have hlm:lo*2^s%18446744073709551616<18446744073709551616:=Nat.mod_lt _ qE
  have hfin:=@div_final hi lo y
  generalize hY:y*2^s=Y at *
  generalize hi*2^s+lo/2^(64 - s)=u at *
  generalize lo*2^s%18446744073709551616=un10 at *
  refine dJ un10 32 4294967296 rfl rfl rfl qE ?_
  refine iR un10 32 4294967296 rfl rfl rfl hlm qE ?_
  obtain ⟨y1,hy1⟩:∃ y1,y1=Y/4294967296:=⟨_,rfl⟩
  obtain ⟨y0,hy0⟩:∃ y0,y0=Y%4294967296:=⟨_,rfl⟩
  obtain ⟨u1,hu1⟩:∃ u1,u1=un10/4294967296:=⟨_,rfl⟩
  obtain ⟨u0,hu0⟩:∃ u0,u0=un10%4294967296:=⟨_,rfl⟩
  obtain ⟨q1,hq1⟩:∃ q1,q1=(u*4294967296+u1)/Y:=⟨_,rfl⟩
  obtain ⟨r1,hr1⟩:∃ r1,r1=(u*4294967296+u1)%Y:=⟨_,rfl⟩
  have hst:DivStep u Y y1 y0 u1 q1:=⟨by omega,by omega,by omega,by omega,hult,by omega,hq1⟩
  have hf:=hst.first
  have hfd:=Nat.div_add_mod u y1
  have hfm:=Nat.mod_lt u (show 0<y1 by omega)
  have hqd:Y*q1+r1=u*4294967296+u1:=by rw [hq1,hr1]; exact Nat.div_add_mod _ _
  have hqm:r1<Y:=by rw [hr1]; exact Nat.mod_lt _ qN
  clear hq1 hr1
  rw [← hy1,← hy0,← hu1,← hu0]
  have hdle:u/y1≤u:=Nat.div_le_self _ _
  refine gH qN qN (by rw [← Int.natCast_ediv]; exact ⟨Int.natCast_nonneg _,by omega⟩) ?_
  rw [← Int.natCast_ediv]
  have hle:u/y1*y1≤u:=Nat.div_mul_le_self _ _
  refine dQ rfl ((u/y1*y1:Nat):Int) (by rw [← Int.natCast_mul]; exact bT ⟨Int.natCast_nonneg _,by omega⟩) ?_
  refine dQ rfl ((u%y1:Nat):Int) (by rw [show ((u:Int) - ((u/y1*y1:Nat):Int))=((u%y1:Nat):Int) from by have:=Nat.mul_comm y1 (u/y1); omega]; exact bT ⟨by omega,by omega⟩) ?_
  refine loop_cut (Y:=Nat) 0 (fun g=>([(2,.int .u64 (Y:Nat)),(8,.int .u64 (s:Nat)),(9,.int .u64 (y1:Nat)),(10,.int .u64 (y0:Nat)),(11,.int .u64 (u:Nat)),(13,.int .u64 (u1:Nat)),(14,.int .u64 (u0:Nat)),(15,.int .u64 (g:Nat))],[],[]))
   (fun g=>g=q1) ?_ ?_
  ·refine bD (X:=Nat×Nat) (fun x=>([(2,.int .u64 (Y:Nat)),(8,.int .u64 (s:Nat)),(9,.int .u64 (y1:Nat)),(10,.int .u64 (y0:Nat)),(11,.int .u64 (u:Nat)),(13,.int .u64 (u1:Nat)),(14,.int .u64 (u0:Nat)),(15,.int .u64 (x.1:Nat)),(16,.int .u64 (x.2:Nat))],[],[]))
    (fun x=>x.1*y1+x.2=u∧x.2<4294967296∧q1≤x.1∧x.1≤4294967297) (fun x=>x.1) rfl ?_ ?_
   ·exact bB (u/y1,u%y1) ⟨by simp only; rw [Nat.mul_comm]; exact hfd,by simp only; omega,hf.1,hf.2⟩ trivial qF (aD qS)
   ·
    rintro ⟨g,r⟩ ⟨g1,g2,g3,g4⟩
    simp only at g1 g2 g3 g4 ⊢
    have hlt:=hst.lt
    have b1:g*y0≤4294967297*y0:=Nat.mul_le_mul_right _ g4
    refine aO _ rfl (fun hc=>?_) (fun hc=>?_)
    ·refine ar rfl qI ?_
     refine ar rfl qI ?_
     have e1:(g - 1)*y1+(r+y1)=g*y1+r:=by
      obtain ⟨g',rfl⟩:∃ g',g=g'+1:=⟨g - 1,by omega⟩
      rw [Nat.add_mul]; simp; omega
     refine aO _ rfl (fun hd=>?_) (fun hd=>?_)
     ·refine bB (g - 1) ?_ trivial qF (aD qS)
      have b2:(g - 1)*y0≤4294967296*y0:=Nat.mul_le_mul_right _ qN
      have:=hst.low (e1.trans g1) (by have:=hst.h3; omega)
      omega
     ·exact bB (g - 1,r+y1) ⟨by simp only; exact e1.trans g1,by simp only; omega,by simp only; omega,by simp only; omega⟩ (by simp only; omega) qF (aD qS)
    ·have b0:g*y0≤4294967295*4294967295:=Nat.mul_le_mul qN (by have:=hst.h3; omega)
     refine dQ rfl ((g*y0:Nat):Int) (by rw [← Int.natCast_mul]; exact bT ⟨Int.natCast_nonneg _,by omega⟩) ?_
     refine ar rfl qI ?_
     refine ar rfl qI ?_
     refine aO _ rfl (fun hd=>?_) (fun hd=>?_)
     ·have hh:=hst.high g1 qN
      refine ar rfl qI ?_
      refine ar rfl qI ?_
      have e1:(g - 1)*y1+(r+y1)=g*y1+r:=by
       obtain ⟨g',rfl⟩:∃ g',g=g'+1:=⟨g - 1,by omega⟩
       rw [Nat.add_mul]; simp; omega
      refine aO _ rfl (fun he=>?_) (fun he=>?_)
      ·refine bB (g - 1) ?_ trivial qF (aD qS)
       have b2:(g - 1)*y0≤4294967296*y0:=Nat.mul_le_mul_right _ qN
       have:=hst.low (e1.trans g1) (by have:=hst.h3; omega)
       omega
      ·exact bB (g - 1,r+y1) ⟨by simp only; exact e1.trans g1,by simp only; omega,by simp only; omega,by simp only; omega⟩ (by simp only; omega) qF (aD qS)
     ·refine bB g ?_ trivial qF (aD qS)
      have:=hst.low g1 qN
      omega
  ·rintro g rfl
   have hr1B:r1<18446744073709551616:=by omega
   refine dQ rfl (((u*4294967296:Nat):Int)%18446744073709551616) (by rw [dA]; rfl) ?_
   refine dQ rfl ((((u*4294967296:Nat):Int)+u1)%18446744073709551616) (by rw [dA]; omega) ?_
   refine dQ rfl (((Y*g:Nat):Int)%18446744073709551616) (by rw [dA,← Int.natCast_mul,Nat.mul_comm]) ?_
   refine dQ rfl ((r1:Nat):Int) (by rw [dA]; omega) ?_
   obtain ⟨q0,hq0⟩:∃ q0,q0=(r1*4294967296+u0)/Y:=⟨_,rfl⟩
   obtain ⟨r0,hr0⟩:∃ r0,r0=(r1*4294967296+u0)%Y:=⟨_,rfl⟩
   have hst2:DivStep r1 Y y1 y0 u0 q0:=⟨by omega,by omega,by omega,by omega,hqm,by omega,hq0⟩
   have hf2:=hst2.first
   have hfd2:=Nat.div_add_mod r1 y1
   have hfm2:=Nat.mod_lt r1 (show 0<y1 by omega)
   have hqd2:Y*q0+r0=r1*4294967296+u0:=by rw [hq0,hr0]; exact Nat.div_add_mod _ _
   have hqm2:r0<Y:=by rw [hr0]; exact Nat.mod_lt _ qN
   clear hq0 hr0
   have hdle2:r1/y1≤r1:=Nat.div_le_self _ _
   refine gH qN qN (by rw [← Int.natCast_ediv]; exact ⟨Int.natCast_nonneg _,by omega⟩) ?_
   rw [← Int.natCast_ediv]
   have hle2:r1/y1*y1≤r1:=Nat.div_mul_le_self _ _
   refine dQ rfl ((r1/y1*y1:Nat):Int) (by rw [← Int.natCast_mul]; exact bT ⟨Int.natCast_nonneg _,by omega⟩) ?_
   refine dQ rfl ((r1%y1:Nat):Int) (by rw [show ((r1:Int) - ((r1/y1*y1:Nat):Int))=((r1%y1:Nat):Int) from by have:=Nat.mul_comm y1 (r1/y1); omega]; exact bT ⟨by omega,by omega⟩) ?_
   have hglt:=hst.lt
   clear hst hf
   refine loop_cut (Y:=Nat) 2 (fun h=>([(2,.int .u64 (Y:Nat)),(8,.int .u64 (s:Nat)),(14,.int .u64 (u0:Nat)),(15,.int .u64 (g:Nat)),(17,.int .u64 (r1:Nat)),(18,.int .u64 (h:Nat))],[],[]))
    (fun h=>h=q0) ?_ ?_
   ·refine bD (X:=Nat×Nat) (fun x=>([(2,.int .u64 (Y:Nat)),(8,.int .u64 (s:Nat)),(9,.int .u64 (y1:Nat)),(10,.int .u64 (y0:Nat)),(14,.int .u64 (u0:Nat)),(15,.int .u64 (g:Nat)),(17,.int .u64 (r1:Nat)),(18,.int .u64 (x.1:Nat)),(16,.int .u64 (x.2:Nat))],[],[]))
     (fun x=>x.1*y1+x.2=r1∧x.2<4294967296∧q0≤x.1∧x.1≤4294967297) (fun x=>x.1) rfl ?_ ?_
    ·exact bB (r1/y1,r1%y1) ⟨by simp only; rw [Nat.mul_comm]; exact hfd2,by simp only; omega,hf2.1,hf2.2⟩ trivial qF (aD qS)
    ·have hst:=hst2
     rintro ⟨g,r⟩ ⟨g1,g2,g3,g4⟩
     simp only at g1 g2 g3 g4 ⊢
     have hlt:=hst.lt
     have b1:g*y0≤4294967297*y0:=Nat.mul_le_mul_right _ g4
     refine aO _ rfl (fun hc=>?_) (fun hc=>?_)
     ·refine ar rfl qI ?_
      refine ar rfl qI ?_
      have e1:(g - 1)*y1+(r+y1)=g*y1+r:=by
       obtain ⟨g',rfl⟩:∃ g',g=g'+1:=⟨g - 1,by omega⟩
       rw [Nat.add_mul]; simp; omega
      refine aO _ rfl (fun hd=>?_) (fun hd=>?_)
      ·refine bB (g - 1) ?_ trivial qF (aD qS)
       have b2:(g - 1)*y0≤4294967296*y0:=Nat.mul_le_mul_right _ qN
       have:=hst.low (e1.trans g1) (by have:=hst.h3; omega)
       omega
      ·exact bB (g - 1,r+y1) ⟨by simp only; exact e1.trans g1,by simp only; omega,by simp only; omega,by simp only; omega⟩ (by simp only; omega) qF (aD qS)
     ·have b0:g*y0≤4294967295*4294967295:=Nat.mul_le_mul qN (by have:=hst.h3; omega)
      refine dQ rfl ((g*y0:Nat):Int) (by rw [← Int.natCast_mul]; exact bT ⟨Int.natCast_nonneg _,by omega⟩) ?_
      refine ar rfl qI ?_
      refine ar rfl qI ?_
      refine aO _ rfl (fun hd=>?_) (fun hd=>?_)
      ·have hh:=hst.high g1 qN
       refine ar rfl qI ?_
       refine ar rfl qI ?_
       have e1:(g - 1)*y1+(r+y1)=g*y1+r:=by
        obtain ⟨g',rfl⟩:∃ g',g=g'+1:=⟨g - 1,by omega⟩
        rw [Nat.add_mul]; simp; omega
       refine aO _ rfl (fun he=>?_) (fun he=>?_)
       ·refine bB (g - 1) ?_ trivial qF (aD qS)
        have b2:(g - 1)*y0≤4294967296*y0:=Nat.mul_le_mul_right _ qN
        have:=hst.low (e1.trans g1) (by have:=hst.h3; omega)
        omega
       ·exact bB (g - 1,r+y1) ⟨by simp only; exact e1.trans g1,by simp only; omega,by simp only; omega,by simp only; omega⟩ (by simp only; omega) qF (aD qS)
      ·refine bB g ?_ trivial qF (aD qS)
       have:=hst.low g1 qN
       omega
   ·rintro h rfl
    have hhlt:=hst2.lt
    refine ar rfl qI ?_
    refine ar rfl qI ?_
    refine dQ rfl (((r1*4294967296:Nat):Int)%18446744073709551616) (by rw [dA]; rfl) ?_
    refine dQ rfl ((((r1*4294967296:Nat):Int)+u0)%18446744073709551616) (by rw [dA]; omega) ?_
    refine dQ rfl (((Y*h:Nat):Int)%18446744073709551616) (by rw [dA,← Int.natCast_mul,Nat.mul_comm]) ?_
    refine dQ rfl ((r0:Nat):Int) (by rw [dA]; omega) ?_
    refine dJ r0 s (2^s) rfl rfl rfl (by simp [IntKind.bits]; omega) ?_
    obtain ⟨e1,e2⟩:=hfin (q1:=g) (q0:=h) (r1:=r1) (r0:=r0) (un32:=u) (un1:=u1) (un0:=u0) hSp (by rw [← hun]; omega) (by rw [hY,Nat.mul_comm]; exact hqd) (by rw [hY,Nat.mul_comm]; exact hqd2) (by rw [hY]; exact hqm2)
    refine fin ⟨rfl,rfl,?_⟩ (bO _ _)
    rw [← e1,← e2]
    simp [tup]
theorem short_meets (v:Value) (a:List Nat) (y:Nat) (ha:Lim a) (la:a.length≤1099511627776) (hy:y<18446744073709551616) (h0:y≠0) :
  aY Tryz.prog 169 [v,.int .u64 (y:Int)] [(v,U a)] (fun r os fs=>os=[]∧∃ q s,r=.tuple #[q,s,.bool true]∧fs=[(q,U (b9 (nv a/y))),(s,U (b9 (nv a%y)))]):=by
 refine mV Tryz.func169 ?_
 refine aS qM fun _=>?_
 refine rY a.length rfl rfl qN qN fun vo ho=>?_
 refine aS qM fun _=>?_
 refine ar rfl qI ?_
 refine bD (X:=Nat×List Nat×Nat) (fun x=>([(0,v),(1,.int .u64 (y:Nat)),(7,vo),(8,.int .u64 (x.2.2:Nat)),(9,.int .i64 ((x.1:Int) - 1))],[j8 vo x.2.1],[(v,U a)]))
  (fun x=>x.1≤a.length∧x.2.1.length=a.length∧Lim x.2.1∧x.2.2<y∧nv (a.drop x.1)=nv (x.2.1.drop x.1)*y+x.2.2) (fun x=>x.1) rfl ?_ ?_
 ·exact bB (a.length,List.replicate a.length 0,0) ⟨Nat.le_refl _,by simp,Lim.replicate _,by simp only; omega,by simp [nv]⟩ trivial qF (aD qS)
 ·rintro ⟨k,l,r⟩ ⟨h1,h2,h3,h4,h5⟩
  simp only at h1 h2 h3 h4 h5 ⊢
  refine aO _ rfl (fun hc=>?_) (fun hc=>?_)
  ·obtain ⟨i,rfl⟩:∃ i,k=i+1:=⟨k - 1,by omega⟩
   have hx:=ha.get i
   refine aZ qM i qN qN fun p=>?_
   refine bF qM ?_
   refine cH (vD r (a.getD i 0) y h4 hx hy) ?_
   have hq:(r*18446744073709551616+a.getD i 0)/y<18446744073709551616:=by
    rw [Nat.div_lt_iff_lt_mul qN]
    have:(r+1)*18446744073709551616≤y*18446744073709551616:=Nat.mul_le_mul_right _ h4
    rw [Nat.mul_comm 18446744073709551616 y]
    omega
   refine fV 0 rfl ho i qN qN ?_
   refine fS 0 rfl _ rfl qN ?_
   refine ar rfl qI ?_
   refine bB (i,l.set i ((r*18446744073709551616+a.getD i 0)/y),(r*18446744073709551616+a.getD i 0)%y) ⟨by omega,by simp [h2],h3.set _ hq,Nat.mod_lt _ qN,?_⟩ (by simp only; omega) qF (aD qS)
   simp only
   have e1:nv (a.drop i)=a.getD i 0+18446744073709551616*nv (a.drop (i+1)):=by
    rw [List.drop_eq_getElem_cons qN,nv]; simp [gE,show i<a.length by omega]
   have e2:nv ((l.set i ((r*18446744073709551616+a.getD i 0)/y)).drop i)=(r*18446744073709551616+a.getD i 0)/y+18446744073709551616*nv (l.drop (i+1)):=by
    rw [List.drop_eq_getElem_cons (by simp; omega),nv,List.drop_set_of_lt qN]; simp
   have hd:=Nat.div_add_mod (r*18446744073709551616+a.getD i 0) y
   rw [e1,e2,h5,Nat.mul_add,Nat.add_mul]
   have e3:18446744073709551616*(nv (l.drop (i+1))*y)=18446744073709551616*nv (l.drop (i+1))*y:=(Nat.mul_assoc _ _ _).symm
   have e4:=Nat.mul_comm y ((r*18446744073709551616+a.getD i 0)/y)
   omega
  ·have hk:k=0:=by omega
   subst hk
   rw [List.drop_zero,List.drop_zero] at h5
   refine bN (dI vo l) (Seals.U 0 rfl ho) qS ?_
   rintro q _ _ ⟨rfl,rfl⟩
   refine lit_U r rfl fun w=>?_
   refine cG (dI w [r]) fun s=>?_
   have hdm:nv a/y=nv l∧nv a%y=r:=by
    rw [h5,Nat.mul_comm]
    exact ⟨by rw [Nat.mul_add_div qN,Nat.div_eq_of_lt h4,Nat.add_zero],by rw [Nat.mul_add_mod,Nat.mod_eq_of_lt h4]⟩
   refine fin ⟨rfl,q,s,rfl,rfl⟩ (Seals.cons ((cI qM).cast ?_) (Seals.cons ((cI qM).cast ?_) (bO _ _)))
   ·rw [d9 h3,hdm.1]
   ·rw [d9 (Lim.cons qN Lim.nil),hdm.2]; simp [nv]
def wsl (v:Value) (j m:Nat):Value :=
 match v with
 | .slice (some a) _ _=>.slice (some (a.add (j*1))) m m
 | _=>undef
theorem ownU_ne {G:Ctx} {os:List Own} {fs:List bA} {w:World} (hw:Holds G os fs w) {pos:Nat} {u:Value} {l:List Nat} (h:bQ os pos=some (j8 u l)) (hs:eQ u) (hl:0<l.length) :
  ∃ r cap,u=.slice (some ⟨r,0,none⟩) l.length cap∧l.length≤cap:=by
 rcases hw.own _ (bU h) 0 Nat.zero_lt_one with ⟨_,h2⟩ | ⟨r,cap,h1,_,h2,_⟩ | ⟨r,h1,_⟩ | ⟨h2,_⟩
 rotate_right
 ·simp only [j8,bL] at h2; omega
 ·simp only [j8,bL] at h2; omega
 ·exact ⟨r,cap,h1,h2⟩
 ·obtain ⟨_,_,_,rfl⟩:=hs; simp [j8,bL] at h1
theorem win_rule {P:Program} {t e:TypeId} {u:Value} {l:List Nat} {k1 k2 k3:IntKind} {x y z:Int} {os:List Own} {fs:List bA} {K:cE} [ht:TSl P t e 1] (pos:Nat) (h:bQ os pos=some (j8 u l)) (hs:eQ u)
  (j m:Nat) (hx:x=(j:Int)) (hy:y=((j+m:Nat):Int)) (hz:z=((j+m:Nat):Int)) (hm:0<m) (hl:j+m≤l.length)
  (k:K (wsl u j m) os fs):oU P t u (some (.int k1 x)) (some (.int k2 y)) (some (.int k3 z)) os fs K:=by
 subst hx hy hz
 refine ⟨fun G w hw=>?_⟩
 obtain ⟨r,cap,rfl,hc⟩:=ownU_ne hw h hs qN
 refine ⟨_,fs,fun w' _=>dH (v:=.slice (some (Addr.add ⟨r,0,none⟩ (j*1))) m m) ?_,k,hw⟩
 have h1:((j:Int)≤((j+m:Nat):Int)):=by omega
 have h2:(((j+m:Nat):Int)≤(cap:Int)):=by omega
 have h3:j+m≠j:=by omega
 have h1':((j:Int)≤(j:Int)+(m:Int)):=by omega
 have h2':((j:Int)+(m:Int)≤(cap:Int)):=by omega
 have h5:(0:Int)≤(j:Int)+(m:Int):=by omega
 have h6:((j:Int)+(m:Int)).toNat=j+m:=by omega
 have h7:m≠0:=by omega
 simp [Instr.sliceAt,run_underlying ht.und,Instr.slice,Instr.sliceBounds,Instr.sliceBound,asIntOf,h1',h2',h5,h6,h7,dB ht.size]
theorem iN {P:Program} {t e:TypeId} {u:Value} {l:List Nat} {kk:IntKind} {x:Int} {os:List Own} {fs:List bA} {K:cE} [ht:TSl P t e 1] (pos:Nat) (h:bQ os pos=some (j8 u l)) (hs:eQ u)
  {j m:Nat} (i:Nat) (hx:x=(i:Int)) (hi:i<m) (hl:j+m≤l.length) (k:K (jP u ((j+i)*1)) os fs):jE P t (wsl u j m) (.int kk x) os fs K:=by
 subst hx
 refine ⟨fun G w hw=>?_⟩
 obtain ⟨r,cap,rfl,hc⟩:=ownU_ne hw h hs qN
 refine ⟨_,fs,fun w' _=>dH ?_,k,hw⟩
 simp only [wsl]
 rw [o6 ht _ _ _ _ _ qN qN w']
 simp [jP,eI]
def win (l:List Nat) (j m:Nat):List Nat:=(l.drop j).take m
theorem win_set {l:List Nat} {j i s:Nat} (h:j+i<l.length):nv (win (l.set (j+i) s) j (i+1))=nv (win l j i)+18446744073709551616^i*s:=by
 unfold win
 rw [List.drop_set,if_neg qN,show j+i - j=i by omega]
 exact fL (by simp; omega)
theorem kT (l:List Nat) (j i:Nat):nv (win l j (i+1))=nv (win l j i)+18446744073709551616^i*l.getD (j+i) 0:=by
 unfold win
 rw [cV]
 simp [gE,List.getElem?_drop]
theorem takes_eq {Sn So P s c c' x V b b' t:Nat} (h:Sn+t*V=So+P*(b+c)) (hs:s+x*t+c+b=c'+18446744073709551616*b') (o:Nat) (ho:c'=o) :
  (Sn+P*s)+t*(V+P*x)=(So+P*o)+P*18446744073709551616*b':=by
 subst ho
 have e:P*s+t*(P*x)+P*(b+c)=P*c'+P*18446744073709551616*b':=by
  have:t*(P*x)=P*(x*t):=by rw [Nat.mul_left_comm,Nat.mul_comm t]
  rw [this,← Nat.mul_add,← Nat.mul_add,Nat.mul_assoc,← Nat.mul_add]
  congr 1
  omega
 rw [Nat.mul_add]
 omega
theorem takes_call {K:cE} {os:List Own} {fs:List bA} (pos:Nat) {u v:Value} {l0 vl:List Nat} {j n t:Nat} (h:bQ os pos=some (j8 u l0)) (hs:eQ u) (hv:(v,U vl)∈fs) (hn:vl.length=n)
  (hl0:Lim l0) (hvl:Lim vl) (hj:j+(n+1)≤l0.length) (ll:l0.length≤1099511627777) (ht:t<18446744073709551616)
  (k:∀ l' b,l'.length=l0.length→Lim l'→(∀ x,x<j∨j+n<x→l'.getD x 0=l0.getD x 0)→b≤1→nv (win l' j (n+1))+t*nv vl=nv (win l0 j (n+1))+18446744073709551616^(n+1)*b →
   K (.bool (decide (b≠0))) (setOwn os pos (j8 u l')) fs):CallK Tryz.prog false (.func (.func 181) #[] #[]) [wsl u j (n+1),v,.int .u64 (t:Int)] os fs K:=by
 refine vK Tryz.func181 qK rfl qK (Nat.le_of_ble_eq_true rfl) ?_
 refine aS hv fun _=>?_
 refine bD (X:=Nat×List Nat×Nat×Nat) (fun x=>([(0,wsl u j (n+1)),(1,v),(2,.int .u64 (t:Nat)),(7,.int .u64 (x.2.2.1:Nat)),(8,.int .u64 (x.2.2.2:Nat)),(14,v),(15,.int .i64 (vl.length:Nat)),(16,.int .i64 (x.1:Nat))],setOwn os pos (j8 u x.2.1),fs))
  (fun x=>x.1≤n∧x.2.1.length=l0.length∧Lim x.2.1∧x.2.2.1≤1∧x.2.2.2<18446744073709551616∧(∀ y,y<j∨j+x.1≤y→x.2.1.getD y 0=l0.getD y 0) ∧
   nv (win x.2.1 j x.1)+t*nv (vl.take x.1)=nv (win l0 j x.1)+18446744073709551616^x.1*(x.2.2.1+x.2.2.2)) (fun x=>n - x.1) rfl ?_ ?_
 ·exact bB (0,l0,0,0) ⟨Nat.zero_le _,rfl,hl0,by simp,by simp,fun _ _=>rfl,by simp [win,nv]⟩ trivial qF (by simp only; rw [set_same h]; exact aT _ _)
 ·rintro ⟨i,l,b,c⟩ ⟨h1,h2,h3,h4,h5,h6,h7⟩
  simp only at h1 h2 h3 h4 h5 h6 h7 ⊢
  have hn':bQ (setOwn os pos (j8 u l)) pos=some (j8 u l):=k8 h
  refine aO _ rfl (fun hc=>?_) (fun hc=>?_)
  ·have hx:=hvl.get i
   have hui:=hl0.get (j+i)
   refine aZ hv i rfl qN fun p=>?_
   refine bF qM ?_
   refine cH (o4 (vl.getD i 0) t hx ht) ?_
   have hp:vl.getD i 0*t≤18446744073709551615*18446744073709551615:=Nat.mul_le_mul qN qN
   have hstep:=fun (s c' b':Nat)=>takes_eq (P:=18446744073709551616^i) (x:=vl.getD i 0) (s:=s) (c':=c') (b':=b') h7
   generalize vl.getD i 0*t=q at *
   refine iC (q%18446744073709551616) c 0 rfl rfl rfl qE ?_
   refine dQ rfl ((q/18446744073709551616+(q%18446744073709551616+c+0)/18446744073709551616:Nat):Int) (by rw [← Int.natCast_add]; exact bT ⟨Int.natCast_nonneg _,by omega⟩) ?_
   refine iN pos hn' hs i rfl qN qN ?_
   refine kW pos hn' (j+i) qN ?_
   rw [h6 _ (.inr (Nat.le_refl _))]
   refine n6 (l0.getD (j+i) 0) ((q%18446744073709551616+c+0)%18446744073709551616) b rfl rfl rfl h4 ?_
   refine iN pos hn' hs i rfl qN qN ?_
   refine fS pos hn' _ rfl qN ?_
   refine ar rfl qI ?_
   refine bB (i+1,l.set (j+i) ((l0.getD (j+i) 0+18446744073709551616 - (q%18446744073709551616+c+0)%18446744073709551616 - b)%18446744073709551616),if l0.getD (j+i) 0<(q%18446744073709551616+c+0)%18446744073709551616+b then 1 else 0,q/18446744073709551616+(q%18446744073709551616+c+0)/18446744073709551616)
    ⟨by omega,by simp [h2],h3.set _ qN,by simp only; split <;> omega,by simp only; omega,fun y hy=>?_,?_⟩ (by simp only; omega) qF (by rw [set_set]; exact aD (fun F hF=>by simp [hF]))
   ·simp only at hy ⊢
    rw [eY qN,if_neg qN]; exact h6 y qN
   ·simp only
    rw [win_set qN,kT,cV,Nat.pow_succ]
    exact hstep _ _ _ (by split <;> omega) _ rfl
  ·have hi:i=n:=by omega
   subst hi
   have hun:=hl0.get (j+i)
   refine aS hv fun _=>?_
   refine aS hv fun _=>?_
   refine iN pos hn' hs i qN qN qN ?_
   refine kW pos hn' (j+i) qN ?_
   rw [h6 _ (.inr (Nat.le_refl _))]
   refine n6 (l0.getD (j+i) 0) c b rfl rfl rfl h4 ?_
   refine iN pos hn' hs i qN qN qN ?_
   refine fS pos hn' _ rfl qN ?_
   rw [set_set]
   have hk:=k (l.set (j+i) ((l0.getD (j+i) 0+18446744073709551616 - c - b)%18446744073709551616)) (if l0.getD (j+i) 0<c+b then 1 else 0) (by simp [h2]) (h3.set _ qN) (fun y hy=>by rw [eY qN,if_neg qN]; exact h6 y qN) (by split <;> omega) (by
    rw [win_set qN,kT,Nat.pow_succ]
    rw [List.take_of_length_le qN] at h7
    have:=takes_eq (P:=18446744073709551616^i) (x:=0) (s:=(l0.getD (j+i) 0+18446744073709551616 - c - b)%18446744073709551616) (b':=if l0.getD (j+i) 0<c+b then 1 else 0) (c':=l0.getD (j+i) 0) h7 (by split <;> omega) _ rfl
    simpa using this)
   refine aO _ rfl (fun hz=>?_) (fun hz=>?_)
   ·refine fin ?_ (aD (fun F hF=>by simpa using hF))
    have:((if l0.getD (j+i) 0<c+b then 1 else 0:Nat)≠0):=by omega
    rw [show decide ((if l0.getD (j+i) 0<c+b then 1 else 0:Nat)≠0)=true from decide_eq_true this] at hk
    exact hk
   ·refine fin ?_ (aD (fun F hF=>by simpa using hF))
    have:¬ ((if l0.getD (j+i) 0<c+b then 1 else 0:Nat)≠0):=by omega
    rw [show decide ((if l0.getD (j+i) 0<c+b then 1 else 0:Nat)≠0)=false from decide_eq_false this] at hk
    exact hk
theorem gives_eq {Sn So P s c c' x V:Nat} (h:Sn+P*c=So+V) (o:Nat) (hs:s+18446744073709551616*c'=o+x+c) :
  (Sn+P*s)+P*18446744073709551616*c'=(So+P*o)+(V+P*x):=by
 have e:P*s+P*18446744073709551616*c'=P*o+P*x+P*c:=by rw [Nat.mul_assoc,← Nat.mul_add,hs,Nat.mul_add,Nat.mul_add]
 omega
theorem gives_call {K:cE} {os:List Own} {fs:List bA} (pos:Nat) {u v:Value} {l0 vl:List Nat} {j n:Nat} (h:bQ os pos=some (j8 u l0)) (hs:eQ u) (hv:(v,U vl)∈fs) (hn:vl.length=n)
  (hl0:Lim l0) (hvl:Lim vl) (hj:j+(n+1)≤l0.length) (ll:l0.length≤1099511627777)
  (k:∀ l' b,l'.length=l0.length→Lim l'→(∀ x,x<j∨j+n<x→l'.getD x 0=l0.getD x 0)→b≤1→nv (win l' j (n+1))+18446744073709551616^(n+1)*b=nv (win l0 j (n+1))+nv vl →
   K (.tuple #[]) (setOwn os pos (j8 u l')) fs):CallK Tryz.prog false (.func (.func 182) #[] #[]) [wsl u j (n+1),v] os fs K:=by
 refine vK Tryz.func182 qK rfl qK (Nat.le_of_ble_eq_true rfl) ?_
 refine aS hv fun _=>?_
 refine bD (X:=Nat×List Nat×Nat) (fun x=>([(0,wsl u j (n+1)),(1,v),(4,.int .u64 (x.2.2:Nat)),(7,v),(8,.int .i64 (vl.length:Nat)),(9,.int .i64 (x.1:Nat))],setOwn os pos (j8 u x.2.1),fs))
  (fun x=>x.1≤n∧x.2.1.length=l0.length∧Lim x.2.1∧x.2.2≤1∧(∀ y,y<j∨j+x.1≤y→x.2.1.getD y 0=l0.getD y 0) ∧
   nv (win x.2.1 j x.1)+18446744073709551616^x.1*x.2.2=nv (win l0 j x.1)+nv (vl.take x.1)) (fun x=>n - x.1) rfl ?_ ?_
 ·exact bB (0,l0,0) ⟨Nat.zero_le _,rfl,hl0,by simp,fun _ _=>rfl,by simp [win,nv]⟩ trivial qF (by simp only; rw [set_same h]; exact aT _ _)
 ·rintro ⟨i,l,c⟩ ⟨h1,h2,h3,h4,h6,h7⟩
  simp only at h1 h2 h3 h4 h6 h7 ⊢
  have hn':bQ (setOwn os pos (j8 u l)) pos=some (j8 u l):=k8 h
  refine aO _ rfl (fun hc=>?_) (fun hc=>?_)
  ·have hx:=hvl.get i
   have hui:=hl0.get (j+i)
   refine aZ hv i rfl qN fun p=>?_
   refine bF qM ?_
   refine iN pos hn' hs i rfl qN qN ?_
   refine kW pos hn' (j+i) qN ?_
   rw [h6 _ (.inr (Nat.le_refl _))]
   refine iC (l0.getD (j+i) 0) (vl.getD i 0) c rfl rfl rfl h4 ?_
   refine iN pos hn' hs i rfl qN qN ?_
   refine fS pos hn' _ rfl qN ?_
   refine ar rfl qI ?_
   refine bB (i+1,l.set (j+i) ((l0.getD (j+i) 0+vl.getD i 0+c)%18446744073709551616),(l0.getD (j+i) 0+vl.getD i 0+c)/18446744073709551616)
    ⟨by omega,by simp [h2],h3.set _ qN,by simp only; omega,fun y hy=>?_,?_⟩ (by simp only; omega) qF (by rw [set_set]; exact aD (fun F hF=>by simp [hF]))
   ·simp only at hy ⊢
    rw [eY qN,if_neg qN]; exact h6 y qN
   ·simp only
    rw [win_set qN,kT,cV,Nat.pow_succ]
    exact gives_eq h7 _ (Nat.mod_add_div _ _)
  ·have hi:i=n:=by omega
   subst hi
   have hun:=hl0.get (j+i)
   refine aS hv fun _=>?_
   refine iN pos hn' hs i qN qN qN ?_
   refine kW pos hn' (j+i) qN ?_
   rw [h6 _ (.inr (Nat.le_refl _))]
   refine dQ rfl (((l0.getD (j+i) 0+c)%18446744073709551616:Nat):Int) (by rw [dA]; omega) ?_
   refine iN pos hn' hs i qN qN qN ?_
   refine fS pos hn' _ rfl qN ?_
   rw [set_set]
   refine fin (k (l.set (j+i) ((l0.getD (j+i) 0+c)%18446744073709551616)) ((l0.getD (j+i) 0+c)/18446744073709551616) (by simp [h2]) (h3.set _ qN) (fun y hy=>by rw [eY qN,if_neg qN]; exact h6 y qN) qN ?_) (aD (fun F hF=>by simpa using hF))
   rw [win_set qN,kT,Nat.pow_succ]
   rw [List.take_of_length_le qN] at h7
   have:=gives_eq (P:=18446744073709551616^i) (x:=0) h7 (l0.getD (j+i) 0) (s:=(l0.getD (j+i) 0+c)%18446744073709551616) (c':=(l0.getD (j+i) 0+c)/18446744073709551616) qN
   simpa using this
def takeC:Nat→Code→Code
 | 0,_=>.skip
 | k+1,c=>match c with
  | .seq a b=>.seq a (takeC k b)
  | c=>c
def dropC:Nat→Code→Code
 | 0,c=>c
 | k+1,c=>match c with
  | .seq _ b=>dropC k b
  | _=>.skip
def cutN {Y:Type} (J:Y→Fr×List Own×List bA) (okJ:Y→Prop) (Q:iX):iX
 | .normal=>fun f os fs=>AtK J okJ f os fs fun _=>True
 | e=>Q e
theorem VC.sound2 {P:Program} {N:Nat} {Q:iX} {Y:Type} (J:Y→Fr×List Own×List bA) (okJ:Y→Prop) :
  ∀ (k:Nat) (c:Code) (G:Ctx) (f:Fr) (os:List Own) (fs:List bA),fH N c=true→VC P N (takeC k c) f os fs (cutN J okJ Q) →
   (∀ y,okJ y→VC P N (dropC k c) (J y).1 (J y).2.1 (J y).2.2 Q) →
   ∀ (a:Act) (w:World),Knows G N f a→Holds G os fs w→c.wpIn (fnc none) 0 P (Qhat N G Q) a w:=by
 intro k
 induction k with
 | zero =>
  intro c G f os fs hok h h2 a w hk hw
  obtain ⟨⟨y,hy,_,g1,g2⟩⟩:=h
  exact VC.soundR c G _ _ _ Q hok (.inl rfl) (h2 y hy) a w (hk.sub g1) (g2 G w hw)
 | succ k ih =>
  intro c G f os fs hok h h2 a w hk hw
  have other:∀ (c:Code),fH N c=true→VC P N c f os fs (cutN J okJ Q)→(∀ y,okJ y→VC P N .skip (J y).1 (J y).2.1 (J y).2.2 Q)→c.wpIn (fnc none) 0 P (Qhat N G Q) a w:=by
   intro c hok h h2
   refine wpIn_mono (VC.soundR c G f os fs _ hok (.inl rfl) h a w hk hw) ?_
   rintro e a' w' ⟨G',hx,f',os',fs',hk',hw',hq⟩
   cases e with
   | normal =>
    obtain ⟨⟨y,hy,_,g1,g2⟩⟩:=hq
    exact ⟨G',hx,_,_,_,hk'.sub g1,g2 G' w' hw',h2 y hy⟩
   | exit id=>exact ⟨G',hx,f',os',fs',hk',hw',hq⟩
   | goto l=>exact ⟨G',hx,f',os',fs',hk',hw',hq⟩
   | ret=>exact ⟨G',hx,f',os',fs',hk',hw',hq⟩
   | panic ch=>exact ⟨G',hx,f',os',fs',hk',hw',hq⟩
   | outgrown=>exact ⟨G',hx,f',os',fs',hk',hw',hq⟩
  cases c with
  | seq x y =>
   simp only [fH,Bool.and_eq_true] at hok
   refine wpIn_seq (wpIn_mono (VC.soundR x G f os fs (thenQ (fun f os fs=>VC P N (takeC k y) f os fs (cutN J okJ Q)) (cutN J okJ Q)) hok.1 (.inl rfl) h a w hk hw) ?_)
   rintro e a' w' ⟨G',hx,f',os',fs',hk',hw',hq⟩
   cases e with
   | normal=>exact wpIn_mono (ih y G' f' os' fs' hok.2 hq h2 a' w' hk' hw') fun _ _ _ h=>h.ext hx
   | exit id=>exact ⟨G',hx,f',os',fs',hk',hw',hq⟩
   | goto l=>exact ⟨G',hx,f',os',fs',hk',hw',hq⟩
   | ret=>exact ⟨G',hx,f',os',fs',hk',hw',hq⟩
   | panic ch=>exact ⟨G',hx,f',os',fs',hk',hw',hq⟩
   | outgrown=>exact ⟨G',hx,f',os',fs',hk',hw',hq⟩
  | skip=>exact other _ hok h h2
  | region id ops d=>exact other _ hok h h2
  | cond c x y=>exact other _ hok h h2
  | block id c=>exact other _ hok h h2
  | loop c=>exact other _ hok h h2
  | exit id=>exact other _ hok h h2
  | scope c=>exact other _ hok h h2
  | label l=>exact other _ hok h h2
  | ret=>exact other _ hok h h2
  | goto l=>exact other _ hok h h2
  | refuse r=>exact other _ hok h h2
  | rangeFunc a b c d=>exact other _ hok h h2
theorem inline_cut {P:Program} {g:FuncId} {fn:Func} {c:Code} {args:List Value} {os:List Own} {fs:List bA} {K:cE} {Y:Type} (k:Nat) (J:Y→Fr×List Own×List bA) (okJ:Y→Prop)
  (hf : P.funcs[g]? = some fn) (hname : (fn.name == "runtime.NumGoroutine") = false) (hb : fn.body = some c) (hok : fH fn.ntmps c = true) (hn : args.length ≤ fn.ntmps)
  (h1:VC P fn.ntmps (takeC k c) (argF 0 args) os fs (cutN J okJ (retQ P fn K)))
  (h2:∀ y,okJ y→VC P fn.ntmps (dropC k c) (J y).1 (J y).2.1 (J y).2.2 (retQ P fn K)):CallK P false (.func (.func g) #[] #[]) args os fs K :=
 uX hf hname hb hn fun G a w hk hw=>VC.sound2 J okJ k c G _ os fs hok h1 h2 a w hk hw
def bodyOf (fn:Func):Code :=
 match fn.body with
 | some c=>c
 | none=>.skip
def cN (l:Nat):Value:=.pointer (some ⟨l,0,none⟩)
def yv (l:Nat):Value:=.func (.yield l) #[] #[]
def dV (l:Nat) (r:Loop):Own:=bL (cN l) 0 0 fun i=>if i=0 then .mp 0 (fun _=>undef) (fun _=>.one undef) else .lp r
theorem kF {G:Ctx} {os:List Own} {fs:List bA} {w:World} (hw:Holds G os fs w) {pos l:Nat} {r:Loop} (h:bQ os pos=some (dV l r)):G.B≤l∧w.heap[l]? = some (.loop r):=by
 rcases hw.own _ (bU h) 0 Nat.zero_lt_one with ⟨h1,_⟩ | ⟨_,_,h1,_⟩ | ⟨_,_,h1,_⟩ | ⟨_,_,n,k,d,he,⟨r',es,clock,h1,_⟩ | ⟨r',b,since,seen,last,es,clock,h1,hB,⟨_,_,_,_,_,_,_,_,_,g2⟩ | ⟨l',g1,g2⟩⟩⟩
 ·simp [dV,bL,cN] at h1
 ·simp [dV,bL,cN] at h1
 ·simp [dV,bL] at h1
 ·simp [dV,bL,cN] at h1
 ·exact absurd rfl (g2 r)
 ·simp only [dV,bL,cN,Value.pointer.injEq,Option.some.injEq,Addr.mk.injEq,and_true] at h1
  subst h1
  simp only [dV,bL,if_neg (show ¬ (1:Nat)=0 by decide),Dat.lp.injEq] at g2
  subst g2
  exact ⟨hB,g1⟩
theorem o5 {G:Ctx} {os:List Own} {fs:List bA} {w:World} (hw:Holds G os fs w) {pos l:Nat} {r:Loop} (h:bQ os pos=some (dV l r)) (r':Loop) :
  Holds G (setOwn os pos (dV l r')) fs (w.putObj l (.loop r')):=by
 obtain ⟨hB,hl⟩:=kF hw h
 have hlt:l<w.heap.size:=(Array.getElem?_eq_some_iff.1 hl).1
 refine hw.step h rfl rfl rfl (by rw [World.putObj_size]; exact Nat.le_refl _) (fun k hk hn=>World.putObj_heap_other fun e=>hn ⟨0,Nat.zero_lt_one,by rw [e]; rfl⟩) (fun b ⟨i,hi,hb⟩=>.inl ⟨i,hi,hb⟩)
  (fun i j b hi hj _ _=>by simp only [dV,bL] at hi hj; omega) fun _ i _=>?_
 exact .inr (.inr (.inr ⟨rfl,rfl,0,fun _=>undef,fun _=>.one undef,rfl,.inr ⟨l,0,0, #[],0, #[],0,rfl,hB,.inr ⟨r',World.putObj_heap_same hlt,rfl⟩⟩⟩))
theorem Holds.less {G G':Ctx} {os:List Own} {fs:List bA} {w:World} (hx:Ext G G') (h:Holds G' os fs w):Holds G os fs w:=by
 obtain ⟨X,M,D,rfl,h1,h2,h3⟩:=hx
 exact ⟨h.low,h.size,h.below,h.apart,h.own,h.facts,fun b o hb=>h.kept b o ((h1 b o).2 (.inl hb))⟩
def recD (ps:Array Tmp) (sg bd:Code) (fn:FuncId) (tm:Array Value) (D:Nat) (st:LoopState) (pe:Option Code):Loop:={ state:=st,pending:=pe,fn:=fn,tmps:=tm,params:=ps,assign:=sg,body:=bd,defers:=D }
structure EndK (l:Nat) (rec:LoopState→Option Code→Loop) (pe:Option Code) (K:cE) (os:List Own) (fs:List bA):Prop where
 out:∃ pos,bQ os pos=some (dV l (rec .busy none))∧K (.bool pe.isNone) (setOwn os pos (dV l (rec (if pe.isNone then .ready else .done) pe))) fs
def bodyQ (l:Nat) (rec:LoopState→Option Code→Loop) (K:cE):iX
 | .normal=>fun _ os fs=>EndK l rec none K os fs
 | .exit id=>fun _ os fs=>EndK l rec (some (.exit id)) K os fs
 | .ret=>fun _ os fs=>EndK l rec (some .ret) K os fs
 | _=>fun _ _ _=>False
structure BegK (P:Program) (N l:Nat) (rec:LoopState→Option Code→Loop) (bd:Code) (K:cE) (f:Fr) (os:List Own) (fs:List bA):Prop where
 out:∃ pos,bQ os pos=some (dV l (rec .ready none))∧VC P N bd f (setOwn os pos (dV l (rec .busy none))) fs (bodyQ l rec K)
def asgnQ (P:Program) (N l:Nat) (rec:LoopState→Option Code→Loop) (bd:Code) (K:cE):iX
 | .normal=>fun f os fs=>BegK P N l rec bd K f os fs
 | _=>fun _ _ _=>False
structure Link (N:Nat) (f:Fr) (tm:Array Value):Prop where
 size:tm.size=N
 holds:∀ t v,look f t=some v→tm[t]? = some v
def pushP:Fr→List Tmp→List Value→Fr
 | f,p::ps,v::vs=>pushP ((p,v)::f) ps vs
 | f,_,_=>f
def allLt (N:Nat):List Tmp→Bool
 | []=>true
 | p::ps=>Nat.blt p N&&allLt N ps
theorem Link.push {N:Nat}:∀ {ps:List Tmp} {vs:List Value} {f:Fr} {tm:Array Value},Link N f tm→allLt N ps=true→ps.length=vs.length →
  Link N (pushP f ps vs) ((ps.zip vs).foldl (fun tm (t,a)=>tm.setIfInBounds t a) tm)
 | [],[],_,_,h,_,_=>h
 | p::ps,v::vs,f,tm,h,hp,hl=>by
  simp only [allLt,Bool.and_eq_true] at hp
  refine Link.push (ps:=ps) (vs:=vs) (f:=(p,v)::f) ⟨by simp [h.size],fun t u ht=>?_⟩ hp.2 (by simpa using hl)
  have hpN:p<tm.size:=by rw [h.size]; simpa using hp.1
  simp only [look] at ht
  rw [Array.getElem?_setIfInBounds]
  cases hb:Nat.beq p t with
  | true =>
   simp only [hb,Option.some.injEq] at ht
   rw [if_pos (Nat.eq_of_beq_eq_true hb),if_pos hpN,ht]
  | false =>
   simp only [hb] at ht
   rw [if_neg (fun e=>by subst e; simp at hb)]
   exact h.holds t u ht
theorem yield_go {P:Program} {N l D:Nat} {ps:Array Tmp} {sg bd:Code} {fn:FuncId} {tm:Array Value} {f0:Fr} {os:List Own} {fs:List bA} {args:List Value} {K:cE} (pos:Nat)
  (h:bQ os pos=some (dV l (recD ps sg bd fn tm D .ready none))) (hk:Link N f0 tm) (hlen:ps.toList.length=args.length) (hlt:allLt N ps.toList=true)
  (hok:(fH N sg&&fH N bd&&noR sg&&noR bd)=true) (hv:VC P N sg (pushP f0 ps.toList args) os fs (asgnQ P N l (recD ps sg bd fn tm D) bd K)):CallK P false (yv l) args os fs K:=by
 simp only [Bool.and_eq_true] at hok
 obtain ⟨⟨⟨ok1,ok2⟩,nr1⟩,nr2⟩:=hok
 refine ⟨fun G w hw=>?_,fun h=>by cases h⟩
 obtain ⟨hB,hl⟩:=kF hw h
 have hz:(ps.zip args.toArray).toList=ps.toList.zip args:=by simp
 have hrun:(do let x ← Deferred.ofValue (yv l) args.toArray; invoke x.target x.args:Sem Next).run P w=.ok (.round l fn ((ps.toList.zip args).foldl (fun tm (t,a)=>tm.setIfInBounds t a) tm) sg bd) w:=by
  have:=run_yield (P:=P) (args:=args.toArray) hl (by simpa [recD] using hlen.symm)
  simp only [yv,Deferred.ofValue,pure_bind,invoke,Array.empty_append,Array.append_empty]
  rw [← hz,Array.foldl_toList]
  simpa [recD] using this
 rw [hrun]
 refine roundIn_of_wpIn (F:=fnc none) trivial ?_
 have hk':=hk.push hlt hlen
 have hk0:Knows ⟨G.A,G.B,G.w0,G.M,noM⟩ N (pushP f0 ps.toList args) { tmps:=(ps.toList.zip args).foldl (fun tm (t,a)=>tm.setIfInBounds t a) tm,defers:=[] }:=⟨Marks.nil,hk'.size,hk'.holds⟩
 refine wpIn_mono (VC.soundR (r:=some l) sg ⟨G.A,G.B,G.w0,G.M,noM⟩ _ os fs _ ok1 (.inr nr1) hv _ w hk0 (hw.own0 noM)) ?_
 rintro e a1 w1 ⟨G1,hx1,f1,os1,fs1,hk1,hw1,hq⟩
 cases e with
 | normal =>
  obtain ⟨⟨p1,g1,g2⟩⟩:=hq
  obtain ⟨_,hl1⟩:=kF hw1 g1
  refine ⟨_,run_beginRound hl1 rfl,?_⟩
  refine wpIn_mono (VC.soundR (r:=some l) bd G1 _ _ _ _ ok2 (.inr nr2) g2 a1 _ hk1 (o5 hw1 g1 (recD ps sg bd fn tm D .busy none))) ?_
  rintro e a2 w2 ⟨G2,hx2,f2,os2,fs2,hk2,hw2,hq2⟩
  have fin:∀ pe:Option Code,EndK l (recD ps sg bd fn tm D) pe K os2 fs2→∃ v w',(Instr.endRound l pe).run P w2=.ok v w'∧∃ v_1,Ending.returned v=.returned v_1∧∃ os' fs',K v_1 os' fs'∧Holds G os' fs' w':=fun pe ⟨⟨p2,k1,k2⟩⟩=>by
   obtain ⟨_,hl2⟩:=kF hw2 k1
   exact ⟨_,_,run_endRound pe hl2,_,rfl,_,_,k2,((o5 hw2 k1 _).less (hx1.trans hx2)).own0 G.D⟩
  cases e with
  | normal=>exact fin none hq2
  | ret=>exact fin (some .ret) hq2
  | exit id=>exact fin (some (.exit id)) hq2
  | goto t=>exact hq2.elim
  | panic ch=>exact hq2.elim
  | outgrown=>exact hq2.elim
 | ret=>exact hq.elim
 | exit id=>exact hq.elim
 | goto t=>exact hq.elim
 | panic ch=>exact hq.elim
 | outgrown=>exact hq.elim
theorem bX {P:Program} {g:FuncId} {fn:Func} {c:Code} {args caps:List Value} {os:List Own} {fs:List bA} {K:cE}
  (hf : P.funcs[g]? = some fn) (hname : (fn.name == "runtime.NumGoroutine") = false) (hb : fn.body = some c) (hok : fH fn.ntmps c = true) (hn : (args ++ caps).length ≤ fn.ntmps)
  (h:VC P fn.ntmps c (argF 0 (args++caps)) os fs (retQ P fn K)):CallK P false (.func (.func g) #[] caps.toArray) args os fs K:=by
 refine ⟨fun G w hw=>?_,fun h=>by cases h⟩
 have hrun:(do let x ← Deferred.ofValue (.func (.func g) #[] caps.toArray) args.toArray; invoke x.target x.args:Sem Next).run P w=.ok (.enter g (args++caps).toArray) w:=by
  simp only [Deferred.ofValue,pure_bind,invoke,Array.empty_append,List.append_toArray]
  simp only [callFunc,Sem.run_bind,run_program,Result.andThen_ok,hf,hname,hb]
  rfl
 rw [hrun]
 exact jZ (G:=G) hf hb (VC.soundR (r:=none) c _ _ os fs _ hok (.inl rfl) h _ w (uV hn) (hw.own0 noM)) fun v w1 ⟨os1,fs1,h1,h2⟩=>⟨v,rfl,os1,fs1,h1,h2⟩
theorem enters {P : Program} {g : FuncId} {fn : Func} {c : Code} (hf : P.funcs[g]? = some fn) (hname : (fn.name == "runtime.NumGoroutine") = false) (hb : fn.body = some c) (av : Array Value) (w : World) :
  (callFunc g av).run P w=.ok (.enter g av) w:=by
 simp only [callFunc,Sem.run_bind,run_program,Result.andThen_ok,hf,hname,hb]
 rfl
structure IterK (l:Nat) (rec:LoopState→Option Code→Loop) (f:Fr) (Q:iX) (os:List Own) (fs:List bA):Prop where
 out:∃ pos,(bQ os pos=some (dV l (rec .ready none))∧Q .normal f (eE os pos) fs)∨(∃ id,bQ os pos=some (dV l (rec .done (some (.exit id))))∧Q (.exit id) f (eE os pos) fs) ∨
  (bQ os pos=some (dV l (rec .done (some .ret)))∧Q .ret f (eE os pos) fs)
def NextI (l:Nat) (rec:LoopState→Option Code→Loop) (J:Nat→List Own×List bA) (k:Nat) (f:Fr) (Q:iX):cE:=fun v os fs =>
 (v=.bool true∧Seals os fs (dV l (rec .ready none)::(J (k+1)).1) (J (k+1)).2)∨(v=.bool false∧IterK l rec f Q os fs)
theorem set_drop {os:List Own}:∀ {pos:Nat} {o:Own},eE (setOwn os pos o) pos=eE os pos:=by
 induction os with
 | nil=>intro pos o; cases pos <;> rfl
 | cons x r ih=>intro pos o; cases pos <;> simp [setOwn,eE,ih]
theorem over_go {P:Program} {N:Nat} {g:Operand} {ps:Array Tmp} {sg bd:Code} {f:Fr} {os:List Own} {fs:List bA} {Q:iX} {gf:FuncId} {caps:List Value} (hg:ev f g=some (.func (.func gf) #[] caps.toArray))
  (he:∀ (av:Array Value) (w:World),(callFunc gf av).run P w=.ok (.enter gf av) w)
  (h:∀ l D fn tm,Link N f tm→CallK P false (.func (.func gf) #[] caps.toArray) [yv l] (dV l (recD ps sg bd fn tm D .ready none)::os) fs (fun _ os fs=>IterK l (recD ps sg bd fn tm D) f Q os fs)) :
  OverK P N g ps sg bd f os fs Q:=by
 refine ⟨fun G a w hk hw=>wpIn_rangeFunc fun fn _=>?_⟩
 have hval:=hk.ev hg
 let rc:=recD ps sg bd fn a.tmps w.heap.size
 let W1:=(w.alloc kQ).alloc (.loop (rc .ready none))
 have hD:W1.heap[w.heap.size]? = some kQ:=by
  rw [show W1.heap[w.heap.size]? = (w.alloc kQ).heap[w.heap.size]? from Below.heap_alloc _ _ _ qP]
  exact World.alloc_heap_new w _
 have hL:W1.heap[w.heap.size+1]? = some (.loop (rc .ready none)):=by
  have:=World.alloc_heap_new (w.alloc kQ) (.loop (rc .ready none)); rwa [World.size_alloc] at this
 let G':Ctx:=⟨G.A,G.B,G.w0,fun b o=>G.M b o∨(b=w.heap.size∧o=kQ),(fun b=>G.D.1 b∨b=w.heap.size,G.D.2)⟩
 have hnew:∀ b o,G.M b o→b<w.heap.size:=fun b o hb=>(Array.getElem?_eq_some_iff.1 (hw.kept b o hb).2.1).1
 have hx:Ext G G':=⟨fun b=>b=w.heap.size,_,_,rfl,fun _ _=>Iff.rfl,fun _=>Iff.rfl,fun b o hb hm=>by have:=hnew b o hm; omega⟩
 have hb0:Below w.heap.size w (w.alloc kQ):=(Below.refl _ _).alloc (Nat.le_refl _) _
 have hw0:Holds G' os fs (w.alloc kQ):=by
  have h0:=hw.grow hb0
  refine ⟨h0.low,h0.size,h0.below,h0.apart,h0.own,h0.facts,fun b o hb=>?_⟩
  rcases hb with hb | ⟨rfl,rfl⟩
  ·exact h0.kept b o hb
  ·exact ⟨hw.size,World.alloc_heap_new w _,fun ho=>by have:=(hw.owned_lt ho).2; omega⟩
 have hsz0:(w.alloc kQ).heap.size=w.heap.size+1:=by simp
 have hb1:Below (w.alloc kQ).heap.size (w.alloc kQ) W1:=(Below.refl _ _).alloc (Nat.le_refl _) _
 have hw1:Holds G' (dV (w.heap.size+1) (rc .ready none)::os) fs W1:=by
  refine hw0.alloc _ (.loop (rc .ready none)) W1 hb1 rfl (.inr (by rw [hsz0]; rfl)) (.inr (.inr (.inr ⟨rfl,rfl,0,fun _=>undef,fun _=>.one undef,rfl,.inr ⟨w.heap.size+1,0,0, #[],0, #[],0,rfl,?_,.inr ⟨_,hL,rfl⟩⟩⟩)))
  have:=hw.size
  show G.B≤_
  omega
 have hc:=(h (w.heap.size+1) w.heap.size fn a.tmps ⟨hk.size,hk.holds⟩).out G' W1 hw1
 have hrun:(do let x ← Deferred.ofValue (.func (.func gf) #[] caps.toArray) #[yv (w.heap.size+1)]; invoke x.target x.args:Sem Next).run P W1=.ok (.enter gf (#[yv (w.heap.size+1)]++caps.toArray)) W1:=by
  simp only [Deferred.ofValue,pure_bind,invoke,Array.empty_append]
  exact he _ _
 rw [show ([yv (w.heap.size+1)]:List Value).toArray = #[yv (w.heap.size+1)] from rfl,hrun] at hc
 refine ⟨w.heap.size+1,[{ target:=.collected w.heap.size,args := #[] }],W1,{ target:=.fn (.func gf) caps.toArray,args := #[yv (w.heap.size+1)] },W1,gf, #[yv (w.heap.size+1)]++caps.toArray,W1,run_enterLoop_outer _ _ _ _ _,?_,fun _ _=>trivial,?_,fun h=>by simp [fnc,Fence.wide] at h,?_⟩
 ·simp only [resolve,hval]
  simp [go_sem,yv]
 ·simp only [invoke]
  exact he _ _
 ·refine CallsIn.mono (callsIn_wide (n:=0 - 1).2 hc) ?_
  rintro e w3 ⟨v,rfl,os3,fs3,⟨⟨pos,hq⟩⟩,hw3⟩
  have hkn:Knows G' N f { a with defers:=[{ target:=.collected w.heap.size,args := #[] }]++a.defers }:=by
   refine ⟨?_,hk.size,hk.holds⟩
   obtain ⟨rs,r1,r2,r3⟩:=hk.defers
   refine ⟨w.heap.size::rs,List.nodup_cons.2 ⟨fun hm=>by have:=hnew _ _ (r2 _ hm).2; omega,r1⟩,fun r hr=>?_,by rw [r3]; rfl⟩
   rcases List.mem_cons.1 hr with rfl | hr
   ·exact ⟨.inr rfl,.inr ⟨rfl,rfl⟩⟩
   ·exact ⟨.inl (r2 r hr).1,.inl (r2 r hr).2⟩
  have stop:∀ (st:LoopState) (pe:Option Code),st≠.busy→bQ os3 pos=some (dV (w.heap.size+1) (rc st pe)) →
    ∃ w4,(Instr.endLoop (w.heap.size+1)).run P w3=.ok pe w4∧Holds G' (eE os3 pos) fs3 w4:=fun st pe hst hp=>by
   obtain ⟨_,hl3⟩:=kF hw3 hp
   refine ⟨_,run_endLoop hl3 hst,?_⟩
   have:=(o5 hw3 hp { rc st pe with state:=.exhausted }).drop pos
   rwa [set_drop] at this
  rcases hq with ⟨h1,h2⟩ | ⟨id,h1,h2⟩ | ⟨h1,h2⟩
  ·obtain ⟨w4,e1,e2⟩:=stop _ _ qP h1
   exact ⟨none,w4,e1,G',hx,f,_,_,hkn,e2,h2⟩
  ·obtain ⟨w4,e1,e2⟩:=stop _ _ qP h1
   exact ⟨some (.exit id),w4,e1,wpIn_exit ⟨G',hx,f,_,_,hkn,e2,h2⟩⟩
  ·obtain ⟨w4,e1,e2⟩:=stop _ _ qP h1
   exact ⟨some .ret,w4,e1,wpIn_ret ⟨G',hx,f,_,_,hkn,e2,h2⟩⟩
def isEa (o:Oper):Bool :=
 match o.op,o.guard with
 | .alloc _,none=>true
 | _,_=>false
theorem isEa_iff {o:Oper} (h:isEa o=true):(∃ t,o.op=.alloc t)∧o.guard=none:=by
 unfold isEa at h
 split at h
 ·rename_i t h1 h2; exact ⟨⟨t,h1⟩,h2⟩
 ·cases h
theorem tI {o:Oper} (h:isEa o=true):dT o.op=true:=by
 obtain ⟨⟨t,ht⟩,_⟩:=isEa_iff h
 rw [ht]; rfl
def pairA (L:List Oper) (tbl:List Nat) (i:Nat) (oi:Oper) (j:Nat) (oj:Oper):Bool :=
 !Nat.beq i j && !sameD oi.dst oj.dst&&((!(hits oi.dst (cQ L oj)||hits oj.dst (cQ L oi)||(dT oi.op && !isEa oj)||(sD oj.op && !nO oi.op)))||anc tbl i j)
def pairsA (L:List Oper) (tbl:List Nat):List Nat→Bool
 | []=>true
 | i::r=>(match oC L i with
   | none=>false
   | some oi => !hits oi.dst (cQ L oi)&&r.all fun j=>match oC L j with
    | some oj=>pairA L tbl i oi j oj
    | none=>false)&&pairsA L tbl r
def drawA (L:List Oper) (c g:List Nat):Bool :=
 Nat.beq c.length L.length&&(List.range L.length).all (fun i=>c.any (Nat.beq i))&&pairsA L (iE L []) c&&nS L.length g 0 L
structure CheckedA (L:List Oper) (tbl:List Nat) (c:List Nat):Prop where
 nodup:c.Nodup
 all:∀ i,i∈c↔i<L.length
 self:∀ i o,i∈c→L[i]? = some o→∀ t,o.dst=some t→t ∉ cQ L o
 pair:∀ pre i post j oi oj,c=pre++i::post→j∈post→L[i]? = some oi→L[j]? = some oj →
  (∀ t,oi.dst=some t→oj.dst≠some t)∧((∃ t,oi.dst=some t∧t∈cQ L oj)∨(∃ t,oj.dst=some t∧t∈cQ L oi)∨(dT oi.op=true∧isEa oj=false)∨(sD oj.op=true∧nO oi.op=false)→anc tbl i j=true)
theorem nH {L:List Oper} {tbl:List Nat}:∀ {c:List Nat},pairsA L tbl c=true →
  c.Nodup∧(∀ i,i∈c→i<L.length)∧(∀ i o,i∈c→L[i]? = some o→∀ t,o.dst=some t→t ∉ cQ L o) ∧
  ∀ pre i post j oi oj,c=pre++i::post→j∈post→L[i]? = some oi→L[j]? = some oj →
   (∀ t,oi.dst=some t→oj.dst≠some t)∧((∃ t,oi.dst=some t∧t∈cQ L oj)∨(∃ t,oj.dst=some t∧t∈cQ L oi)∨(dT oi.op=true∧isEa oj=false)∨(sD oj.op=true∧nO oi.op=false)→anc tbl i j=true)
 | [],_=>⟨List.nodup_nil,by simp,by simp,fun pre i post j oi oj h=>by simp at h⟩
 | x::r,h=>by
  simp only [pairsA,Bool.and_eq_true] at h
  obtain ⟨h1,h2⟩:=h
  obtain ⟨g1,g2,g3,g4⟩:=nH h2
  cases hx:oC L x with
  | none=>simp [hx] at h1
  | some ox =>
   simp only [hx,Bool.and_eq_true] at h1
   obtain ⟨h3,h4⟩:=h1
   have hxL:L[x]? = some ox:=by rw [← f9]; exact hx
   have hpair:∀ j,j∈r→∃ oj,oC L j=some oj∧pairA L tbl x ox j oj=true:=by
    intro j hj
    have:=List.all_eq_true.1 h4 j hj
    cases hoj:oC L j with
    | none=>simp [hoj] at this
    | some oj=>simp only [hoj] at this; exact ⟨oj,rfl,this⟩
   refine ⟨List.nodup_cons.2 ⟨fun hm=>?_,g1⟩,fun i hi=>?_,fun i o hi ho t ht=>?_,fun pre i post j oi oj hp hj hoi hoj=>?_⟩
   ·obtain ⟨oj,_,hp⟩:=hpair x hm
    simp [pairA] at hp
   ·rcases List.mem_cons.1 hi with rfl | hi
    ·exact (List.getElem?_eq_some_iff.1 hxL).1
    ·exact g2 i hi
   ·rcases List.mem_cons.1 hi with rfl | hi
    ·rw [hxL] at ho
     obtain rfl:=Option.some.inj ho
     intro hm
     rw [g7.2 ⟨t,ht,hm⟩] at h3
     cases h3
    ·exact g3 i o hi ho t ht
   ·cases pre with
    | nil =>
     simp only [List.nil_append,List.cons.injEq] at hp
     obtain ⟨rfl,rfl⟩:=hp
     obtain ⟨oj',h5,h6⟩:=hpair j hj
     rw [f9,hoj] at h5
     obtain rfl:=Option.some.inj h5
     rw [hxL] at hoi
     obtain rfl:=Option.some.inj hoi
     simp only [pairA,Bool.and_eq_true,Bool.or_eq_true,Bool.not_eq_true'] at h6
     obtain ⟨⟨_,h7⟩,h8⟩:=h6
     refine ⟨fun t ht ht'=>?_,fun hc=>?_⟩
     ·rw [ht,ht'] at h7; simp [sameD] at h7
     ·rcases h8 with h8 | h8
      ·exfalso
       simp only [Bool.or_eq_false_iff] at h8
       obtain ⟨⟨⟨q1,q2⟩,q3⟩,q4⟩:=h8
       rcases hc with hc | hc | hc | hc
       ·rw [g7.2 hc] at q1; cases q1
       ·rw [g7.2 hc] at q2; cases q2
       ·rw [hc.1,hc.2] at q3; cases q3
       ·rw [hc.1,hc.2] at q4; cases q4
      ·exact h8
    | cons y pre =>
     simp only [List.cons_append,List.cons.injEq] at hp
     obtain ⟨rfl,rfl⟩:=hp
     exact g4 pre i post j oi oj rfl hj hoi hoj
theorem drawA_sound {L:List Oper} {c g:List Nat} (h:drawA L c g=true):CheckedA L (iE L []) c:=by
 simp only [drawA,Bool.and_eq_true] at h
 obtain ⟨⟨⟨_,h2⟩,h3⟩,_⟩:=h
 obtain ⟨g1,g2,g3,g4⟩:=nH h3
 refine ⟨g1,fun i=>⟨g2 i,fun hi=>?_⟩,g3,g4⟩
 have:=List.all_eq_true.1 h2 i (by simpa using hi)
 obtain ⟨x,hx,hb⟩:=List.any_eq_true.1 this
 have:=Nat.eq_of_beq_eq_true hb
 subst this
 exact hx
theorem uB {L:List Oper} {c g:List Nat} (h:drawA L c g=true) (mixed:Bool) (t:Nat):iS .any L (Region.schedule mixed L.toArray t):=by
 simp only [drawA,Bool.and_eq_true] at h
 have he:=iP h.2
 have weaken:∀ {m:Region.Mode} {l:List Nat},iS m L l→iS .any L l:=fun ho=>⟨ho.nodup,ho.all,fun pre i post hp j ⟨o,h1,e,h2,h3,h4⟩=>ho.before pre i post hp j ⟨o,h1,e,h2,qR h3,h4⟩⟩
 have text:∀ t,iS .text L (Region.linearise .text L.toArray t):=fun t=>dL (ops:=L.toArray) id (fun i j ⟨o,h1,e,h2,h3,h4⟩=>by
  have:=he i o h1 e h2; subst h4; exact ⟨by simpa using this.1,by simpa using this.2.1 h3⟩) t
 have any:∀ t,iS .any L (Region.linearise .any L.toArray t):=fun t=>dL (ops:=L.toArray) id (fun i j ⟨o,h1,e,h2,h3,h4⟩=>by
  have:=he i o h1 e h2; subst h4; exact ⟨by simpa using this.1,by simpa using this.2.2.1 h3⟩) t
 have gc:∀ t,iS .gc L (Region.linearise .gc L.toArray t):=fun t=>dL (ops:=L.toArray) (posOf g) (fun i j ⟨o,h1,e,h2,h3,h4⟩=>by
  have:=he i o h1 e h2; subst h4; exact ⟨by simpa using this.1,by simpa using this.2.2.2 h3⟩) t
 unfold Region.schedule
 split
 ·exact any t
 ·split
  ·exact weaken (text _)
  ·exact weaken (gc _)
section
variable {P:Program} {N:Nat} {L:List Oper} {f0:Fr} {G:Ctx} {K:jD} {c:List Nat}
theorem src_nextA (hc:CheckedA L (iE L []) c) {vd c':List Nat} {k:Nat} {val:Nat→Value} {vf:Fr} {o:Oper} (hs:c=vd++k::c') (ho:L[k]? = some o)
  (virt:∀ t v,look vf t=some v→(∃ j o,j∈vd∧L[j]? = some o∧o.dst=some t∧val j=v)∨(look f0 t=some v∧∀ j o,j∈vd→L[j]? = some o→o.dst≠some t)) :
  ∀ t v,t∈cQ L o→look vf t=some v→Src L (iE L []) f0 vd val k t v:=by
 intro t v ht hl
 rcases virt t v hl with ⟨j,oj,h1,h2,h3,h4⟩ | ⟨h1,h2⟩
 ·left
  refine ⟨j,oj,h1,h2,h3,h4,?_⟩
  obtain ⟨pre,post,rfl⟩:=List.append_of_mem h1
  exact (hc.pair pre j (post++k::c') k oj o (by rw [hs]; simp) qP h2 ho).2 (.inl ⟨t,h3,ht⟩)
 ·right
  refine ⟨h1,fun j oj hj hd=>?_⟩
  have hjc:j∈c:=(hc.all j).2 (List.getElem?_eq_some_iff.1 hj).1
  rw [hs] at hjc
  rcases List.mem_append.1 hjc with hm | hm
  ·exact absurd hd (h2 j oj hm hj)
  ·rcases List.mem_cons.1 hm with rfl | hm
   ·rw [ho] at hj
    obtain rfl:=Option.some.inj hj
    exact absurd ht (hc.self j o ((hc.all j).2 (List.getElem?_eq_some_iff.1 ho).1) ho t hd)
   ·exact (hc.pair vd k c' j o oj hs hm ho hj).2 (.inr (.inl ⟨t,hd,ht⟩))
theorem q6 {vd:List Nat} {val:Nat→Value} {vf:Fr} {x:Nat} {o:Oper} {u:Value} (hc:CheckedA L (iE L []) c) {c':List Nat} (hs:c=vd++x::c') (ho:L[x]? = some o)
  (virt:∀ t v,look vf t=some v→(∃ j o,j∈vd∧L[j]? = some o∧o.dst=some t∧val j=v)∨(look f0 t=some v∧∀ j o,j∈vd→L[j]? = some o→o.dst≠some t)) :
  ∀ t v,look (jS vf o.dst u) t=some v→(∃ j o,j∈vd++[x]∧L[j]? = some o∧o.dst=some t∧fT val x u j=v)∨(look f0 t=some v∧∀ j o,j∈vd++[x]→L[j]? = some o→o.dst≠some t):=by
 intro t v hl
 have hxvd:x ∉ vd:=fun hm=>by
  have:=hc.nodup
  rw [hs,List.nodup_append] at this
  exact this.2.2 x hm x qP rfl
 have old:look vf t=some v→o.dst≠some t→(∃ j o,j∈vd++[x]∧L[j]? = some o∧o.dst=some t∧fT val x u j=v)∨(look f0 t=some v∧∀ j o,j∈vd++[x]→L[j]? = some o→o.dst≠some t):=by
  intro hl hne
  rcases virt t v hl with ⟨j,oj,h1,h2,h3,h4⟩ | ⟨h1,h2⟩
  ·refine .inl ⟨j,oj,by simp [h1],h2,h3,?_⟩
   have:j≠x:=fun e=>hxvd (e ▸ h1)
   simp [fT,this,h4]
  ·refine .inr ⟨h1,fun j oj hj hjo=>?_⟩
   rcases List.mem_append.1 hj with hj | hj
   ·exact h2 j oj hj hjo
   ·simp only [List.mem_singleton] at hj
    subst hj
    rw [ho] at hjo
    obtain rfl:=Option.some.inj hjo
    exact hne
 cases hd:o.dst with
 | none=>rw [hd] at hl; exact old hl (by rw [hd]; simp)
 | some d =>
  rw [hd] at hl
  simp only [jS,look] at hl
  cases hb:Nat.beq d t with
  | true =>
   have:=Nat.eq_of_beq_eq_true hb
   subst this
   simp only [hb,Option.some.injEq] at hl
   exact .inl ⟨x,o,by simp,ho,hd,by simp [fT,hl]⟩
  | false =>
   simp only [hb] at hl
   exact old hl (by rw [hd]; intro e; simp only [Option.some.injEq] at e; subst e; simp at hb)
theorem CheckedA.dsts (hc:CheckedA L (iE L []) c) {i j:Nat} {oi oj:Oper} (hi:i∈c) (hj:j∈c) (hne:i≠j) (ho:L[i]? = some oi) (ho':L[j]? = some oj) {t:Nat} (ht:oi.dst=some t):oj.dst≠some t:=by
 obtain ⟨pre,post,hp⟩:=List.append_of_mem hi
 have hj':=hj
 rw [hp] at hj'
 rcases List.mem_append.1 hj' with hm | hm
 ·obtain ⟨p1,p2,hp2⟩:=List.append_of_mem hm
  exact fun h=>(hc.pair p1 j (p2++i::post) i oj oi (by rw [hp,hp2]; simp) qP ho' ho).1 t h ht
 ·rcases List.mem_cons.1 hm with rfl | hm
  ·exact absurd rfl hne
  ·exact (hc.pair pre i post j oi oj hp hm ho ho').1 t ht
def AllocZ (P:Program) (t:TypeId) (z:Array Value):Prop:=∀ w,(val (Instr.alloc t true (.tuple #[]))).run P w=.ok (.value (.pointer (some ⟨w.heap.size,0,none⟩))) (w.alloc (.cells z t))
theorem AllocZ.uniq {t:TypeId} {z z':Array Value} (h:AllocZ P t z) (h':AllocZ P t z'):z=z':=by
 have:=(h default).symm.trans (h' default)
 simp only [Result.ok.injEq,true_and] at this
 have h2:=World.alloc_heap_new (default:World) (.cells z t)
 rw [this,World.alloc_heap_new] at h2
 simp only [Option.some.injEq,Obj.cells.injEq,and_true] at h2
 exact h2.symm
def PBe (P:Program) (L:List Oper) (D:Nat→Prop) (vd:List Nat) (val:Nat→Value) (r:Nat) (x:Obj):Prop :=
 ∃ i o t z,D i∧i ∉ vd∧L[i]? = some o∧o.op=.alloc t∧AllocZ P t z∧val i=.pointer (some ⟨r,0,none⟩)∧x=.cells z t
def GE (P:Program) (L:List Oper) (G:Ctx) (D:Nat→Prop) (vd:List Nat) (val:Nat→Value):Ctx :=
 ⟨fun b=>G.A b∨∃ x,PBe P L D vd val b x,G.B,G.w0,fun b x=>G.M b x∨PBe P L D vd val b x,G.D⟩
theorem Holds.iff {A A':Nat→Prop} {B:Nat} {w0:World} {M M':Nat→Obj→Prop} {D:(Nat→Prop)×List Deferred} {os:List Own} {fs:List bA} {w:World} (h:Holds ⟨A,B,w0,M,D⟩ os fs w) (hA:∀ b,A' b↔A b) (hM:∀ b x,M' b x→M b x):Holds ⟨A',B,w0,M',D⟩ os fs w:=by
 have hg:∀ b,Good A os w b→Good A' os w b:=fun b ⟨h1,h2,h3⟩=>⟨h1,fun h=>h2 ((hA b).1 h),h3⟩
 have ha:lF (Good A os w) w w:=fun _ _=>rfl
 exact ⟨fun b hb=>h.low b ((hA b).1 hb),h.size,h.below,h.apart,fun o ho i hi=>(h.own o ho i hi).mono ha hg fun _ _=>rfl,h.facts.mono ha hg,fun b x hb=>h.kept b x (hM b x hb)⟩
theorem Holds.apartB {A:Nat→Prop} {B:Nat} {w0:World} {M:Nat→Obj→Prop} {D:(Nat→Prop)×List Deferred} {os:List Own} {fs:List bA} {w:World} (h:Holds ⟨A,B,w0,M,D⟩ os fs w) (x:Obj) :
  Holds ⟨fun b=>A b∨b=w.heap.size,B,w0,fun b y=>M b y∨(b=w.heap.size∧y=x),D⟩ os fs (w.alloc x):=by
 have hb:Below w.heap.size w (w.alloc x):=(Below.refl _ _).alloc (Nat.le_refl _) _
 have hsz:(w.alloc x).heap.size=w.heap.size+1:=by simp
 have hg:∀ b,Good A os w b→Good (fun b=>A b∨b=w.heap.size) os (w.alloc x) b:=fun b ⟨h1,h2,h3⟩=>⟨by rw [hsz]; omega,fun h=>h.elim h2 fun e=>by omega,h3⟩
 have ha:lF (Good A os w) w (w.alloc x):=fun b hb'=>hb.block b hb'.1
 have hno:¬ eW os w.heap.size:=fun ho=>by have:=(h.owned_lt ho).2; omega
 refine ⟨fun b hA=>?_,Nat.le_trans h.size hb.size,h.below.trans (hb.mono h.size),h.apart,fun o ho i hi=>(h.own o ho i hi).mono ha hg fun r hr=>hb.block r ((h.own o ho i hi).blk hr).2,h.facts.mono ha hg,fun b y hM=>?_⟩
 ·rcases hA with hA | rfl
  ·obtain ⟨h1,h2⟩:=h.low b hA
   exact ⟨by rw [hsz]; omega,h2⟩
  ·exact ⟨by rw [hsz]; omega,hno⟩
 ·rcases hM with hM | ⟨rfl,rfl⟩
  ·obtain ⟨k1,k2,k3⟩:=h.kept b y hM
   exact ⟨k1,(hb.block b (Array.getElem?_eq_some_iff.1 k2).1).trans k2,k3⟩
  ·exact ⟨h.size,World.alloc_heap_new w _,hno⟩
structure InvA (P:Program) (N:Nat) (L:List Oper) (f0:Fr) (G:Ctx) (K:jD) (c:List Nat) (D:Nat→Prop) (vd c':List Nat) (val:Nat→Value) (vf:Fr) (os:List Own) (fs:List bA) (a:Act) (w:World):Prop where
 split:c=vd++c'
 sub:∀ i,D i→i∈vd∨∃ o,L[i]? = some o∧isEa o=true
 clos:∀ i,D i→∀ j,gB .any L j i→D j
 defers:Marks (fun b=>G.D.1 b∧G.M b kQ) G.D.2 a.defers
 size:a.tmps.size=N
 act:∀ t v,((∃ j o,D j∧L[j]? = some o∧o.dst=some t∧val j=v)∨(look f0 t=some v∧∀ j o,D j→L[j]? = some o→o.dst≠some t))→a.tmps[t]? = some v
 virt:∀ t v,look vf t=some v→(∃ j o,j∈vd∧L[j]? = some o∧o.dst=some t∧val j=v)∨(look f0 t=some v∧∀ j o,j∈vd→L[j]? = some o→o.dst≠some t)
 pend:∀ k o,k∈vd→¬ D k→L[k]? = some o→Pend P L (iE L []) f0 vd val w k o
 early:∀ i,D i→i ∉ vd→∃ o t z r,L[i]? = some o∧o.op=.alloc t∧o.guard=none∧AllocZ P t z∧val i=.pointer (some ⟨r,0,none⟩)∧¬ G.A r∧∀ x,¬ G.M r x
 inj:∀ i j r,D i→i ∉ vd→D j→j ∉ vd→val i=.pointer (some ⟨r,0,none⟩)→val j=.pointer (some ⟨r,0,none⟩)→i=j
 st:Holds (GE P L G D vd val) os fs w
 vc:VCops P true L (g8 L c') vf os fs K
theorem InvA.inC (hc:CheckedA L (iE L []) c) {D:Nat→Prop} {vd c':List Nat} {val:Nat→Value} {vf:Fr} {os:List Own} {fs:List bA} {a:Act} {w:World} (h:InvA P N L f0 G K c D vd c' val vf os fs a w) {i:Nat} (hi:D i):i∈c:=by
 rcases h.sub i hi with h1 | ⟨o,h1,_⟩
 ·rw [h.split]; simp [h1]
 ·exact (hc.all i).2 (List.getElem?_eq_some_iff.1 h1).1
theorem dst_of {k:Nat} {o:Oper} (hd:eO N L=true) (h:L[k]? = some o):rM N o.dst=true:=by
 have key:∀ (L:List Oper) (k:Nat) (o:Oper),eO N L=true→L[k]? = some o→rM N o.dst=true:=by
  intro L
  induction L with
  | nil=>intro k o _ h; simp at h
  | cons x r ih =>
   intro k o hd h
   simp only [eO,Bool.and_eq_true] at hd
   cases k with
   | zero=>simp only [List.getElem?_cons_zero,Option.some.injEq] at h; subst h; exact hd.1
   | succ k=>exact ih k o hd.2 (by simpa using h)
 exact key L k o hd h
theorem rB {D D':Nat→Prop} {vd vd':List Nat} {val val':Nat→Value} {os:List Own} {fs:List bA} {w:World} (h:Holds (GE P L G D vd val) os fs w)
  (e:∀ i,(D' i∧i ∉ vd')↔(D i∧i ∉ vd)) (ev:∀ i,D i→i ∉ vd→val' i=val i):Holds (GE P L G D' vd' val') os fs w:=by
 have hpb:∀ b x,PBe P L D' vd' val' b x↔PBe P L D vd val b x:=fun b x=>by
  constructor
  ·rintro ⟨i,o,t,z,h1,h2,h3,h4,h5,h6,h7⟩
   obtain ⟨g1,g2⟩:=(e i).1 ⟨h1,h2⟩
   exact ⟨i,o,t,z,g1,g2,h3,h4,h5,by rw [← ev i g1 g2]; exact h6,h7⟩
  ·rintro ⟨i,o,t,z,h1,h2,h3,h4,h5,h6,h7⟩
   obtain ⟨g1,g2⟩:=(e i).2 ⟨h1,h2⟩
   exact ⟨i,o,t,z,g1,g2,h3,h4,h5,by rw [ev i h1 h2]; exact h6,h7⟩
 refine Holds.iff h (fun b=>?_) fun b x hb=>?_
 ·constructor
  ·rintro (h | ⟨x,h⟩)
   ·exact .inl h
   ·exact .inr ⟨x,(hpb b x).1 h⟩
  ·rintro (h | ⟨x,h⟩)
   ·exact .inl h
   ·exact .inr ⟨x,(hpb b x).2 h⟩
 ·exact hb.imp id (hpb b x).1
theorem virt_stepA (hc:CheckedA L (iE L []) c) {D:Nat→Prop} {vd c':List Nat} {k:Nat} {val:Nat→Value} {vf:Fr} {os:List Own} {fs:List bA} {a:Act} {w:World} {o:Oper}
  (h:InvA P N L f0 G K c D vd (k::c') val vf os fs a w) (ho:L[k]? = some o) (hdyn:dT o.op=false) :
  ∃ val' vf' fs',InvA P N L f0 G K c D (vd++[k]) c' val' vf' os fs' a w:=by
 have hnod:=hc.nodup
 rw [h.split,List.nodup_append] at hnod
 have hk:k ∉ vd:=fun hm=>hnod.2.2 k hm k qP rfl
 have hkD:¬ D k:=fun hd=>by
  rcases h.sub k hd with h1 | ⟨o',h1,h2⟩
  ·exact hk h1
  ·rw [ho] at h1
   obtain rfl:=Option.some.inj h1
   rw [tI h2] at hdyn; cases hdyn
 have src:=src_nextA hc h.split ho h.virt
 have hvc:=h.vc
 rw [jG,f9,ho] at hvc
 simp only at hvc
 rw [kC] at hvc
 have eqv:∀ i,(D i∧i ∉ vd++[k])↔(D i∧i ∉ vd):=fun i=>by
  constructor
  ·rintro ⟨h1,h2⟩; exact ⟨h1,fun hm=>h2 (by simp [hm])⟩
  ·rintro ⟨h1,h2⟩; exact ⟨h1,fun hm=>(List.mem_append.1 hm).elim h2 fun h=>hkD (by simp at h; exact h ▸ h1)⟩
 have fin:∀ (u:Value) (fs':List bA),Holds (GE P L G D vd val) os fs' w→VCops P true L (g8 L c') (jS vf o.dst u) os fs' K →
   ((gd L vf o.guard=some false∧u=undef)∨(gd L vf o.guard=some true∧∀ (a:Act) (w':World),KAt (eK o.op) vf a→(nO o.op=true∨Below w.heap.size w w')→(execOp a.eval o).run P w'=.ok (.value u) w')) →
   ∃ val' vf' fs',InvA P N L f0 G K c D (vd++[k]) c' val' vf' os fs' a w:=by
  intro u fs' hst hv hp
  have hval:∀ i,D i→fT val k u i=val i:=fun i hi=>by
   have:i≠k:=fun e=>hkD (e ▸ hi)
   simp [fT,this]
  refine ⟨fT val k u,jS vf o.dst u,fs',by rw [h.split]; simp,fun i hi=>(h.sub i hi).imp (fun h=>by simp [h]) id,h.clos,h.defers,h.size,?_,q6 hc h.split ho h.virt,?_,?_,?_,rB hst eqv (fun i hi _=>hval i hi),hv⟩
  ·intro t v ht
   refine h.act t v ?_
   rcases ht with ⟨j,oj,h1,h2,h3,h4⟩ | ht
   ·exact .inl ⟨j,oj,h1,h2,h3,by rw [hval j h1] at h4; exact h4⟩
   ·exact .inr ht
  ·intro x ox hx hnD hox
   rcases List.mem_append.1 hx with hx | hx
   ·exact (h.pend x ox hx hnD hox).keep hk hx (.inr (Below.refl _ _))
   ·simp only [List.mem_singleton] at hx
    subst hx
    rw [ho] at hox
    obtain rfl:=Option.some.inj hox
    refine ⟨hdyn,vf,fun t v ht hl=>(src t v ht hl).keep hk,?_⟩
    rcases hp with ⟨h1,h2⟩ | ⟨h1,h2⟩
    ·exact .inl ⟨h1,by simp [fT,h2]⟩
    ·exact .inr ⟨h1,fun a w' ha hb=>by simpa [fT] using h2 a w' ha hb⟩
  ·intro i hi hiv
   obtain ⟨g1,g2⟩:=(eqv i).1 ⟨hi,hiv⟩
   rw [hval i hi]; exact h.early i g1 g2
  ·intro i j r hi hiv hj hjv e1 e2
   rw [hval i hi] at e1
   rw [hval j hj] at e2
   exact h.inj i j r hi ((eqv i).1 ⟨hi,hiv⟩).2 hj ((eqv j).1 ⟨hj,hjv⟩).2 e1 e2
 cases hg:gd L vf o.guard with
 | none=>simp only [hg,orF] at hvc
 | some b =>
  cases b with
  | false=>simp only [hg,orF] at hvc; exact fin undef fs h.st hvc (.inl ⟨hg,rfl⟩)
  | true =>
   simp only [hg,orF] at hvc
   cases hv:detv vf o.op with
   | some v=>simp only [hv,orV] at hvc; exact fin v fs h.st hvc (.inr ⟨hg,fun a w' ha _=>gK P ha hv w'⟩)
   | none =>
    simp only [hv,orV] at hvc
    cases hfa:isFa o.op with
    | true =>
     obtain ⟨s,hs1,hs2⟩:=fa_sem o hfa hvc
     obtain ⟨v,fs',h1,h2,h3⟩:=hs2 _ w h.st
     exact fin v fs' h3 h2 (.inr ⟨hg,fun a w' ha _=>by rw [hs1 a ha]; exact h1 w' trivial⟩)
    | false =>
    obtain ⟨s,hs⟩:=DoK.sem o hvc
    obtain ⟨v,fs',h1,h2,h3⟩:=hs.det hdyn _ w h.st
    exact fin v fs' h3 h2 (.inr ⟨hg,fun a w' ha hb=>by
     rcases hb with hb | hb
     ·exact (pu_dok hb hfa hvc).elim
     ·rw [hs.same a ha]; exact h1 w' hb⟩)
theorem virt_ea (hc:CheckedA L (iE L []) c) {D:Nat→Prop} {vd c':List Nat} {k:Nat} {val:Nat→Value} {vf:Fr} {os:List Own} {fs:List bA} {a:Act} {w:World}
  (h:InvA P N L f0 G K c D vd (k::c') val vf os fs a w) (hD:D k):∃ vf' os' fs',InvA P N L f0 G K c D (vd++[k]) c' val vf' os' fs' a w:=by
 have hnod:=hc.nodup
 rw [h.split,List.nodup_append] at hnod
 have hk:k ∉ vd:=fun hm=>hnod.2.2 k hm k qP rfl
 obtain ⟨o,t,z,r,ho,hop,hgd,hz,hval,hA,hM⟩:=h.early k hD hk
 have hvc:=h.vc
 rw [jG,f9,ho] at hvc
 simp only at hvc
 rw [kC] at hvc
 simp only [hgd,gd,orF,hop,detv,orV,DoK] at hvc
 obtain ⟨z2,hz2,hany⟩:=hvc.any
 obtain rfl:=AllocZ.uniq hz2 hz
 have hpk:PBe P L D vd val r (.cells z2 t):=⟨k,o,t,z2,hD,hk,ho,hop,hz,hval,rfl⟩
 obtain ⟨k1,k2,k3⟩:=h.st.kept r _ (.inr hpk)
 have sub:∀ b x,PBe P L D (vd++[k]) val b x→PBe P L D vd val b x:=fun b x ⟨i,o,t,z,h1,h2,h3⟩=>⟨i,o,t,z,h1,fun hm=>h2 (by simp [hm]),h3⟩
 have nr:∀ x,¬ PBe P L D (vd++[k]) val r x:=fun x ⟨i,o,t,z,h1,h2,_,_,_,h6,_⟩=>by
  have:=h.inj i k r h1 (fun hm=>h2 (by simp [hm])) hD hk h6 hval
  exact h2 (by simp [this])
 have hst:Holds ⟨fun b=>(G.A b∨∃ x,PBe P L D (vd++[k]) val b x)∨b=r,G.B,G.w0,fun b x=>G.M b x∨PBe P L D (vd++[k]) val b x,G.D⟩ os fs w:=by
  refine Holds.iff h.st (fun b=>?_) fun b x hb=>hb.imp id (sub b x)
  constructor
  ·rintro ((h1 | ⟨x,h1⟩) | rfl)
   ·exact .inl h1
   ·exact .inr ⟨x,sub b x h1⟩
   ·exact .inr ⟨_,hpk⟩
  ·rintro (h1 | ⟨x,i,oi,ti,zi,h1,h2,h3,h4,h5,h6,h7⟩)
   ·exact .inl (.inl h1)
   ·by_cases hik:i=k
    ·subst hik
     rw [hval] at h6
     simp only [Value.pointer.injEq,Option.some.injEq,Addr.mk.injEq,and_true] at h6
     exact .inr h6.symm
    ·exact .inl (.inr ⟨x,i,oi,ti,zi,h1,fun hm=>(List.mem_append.1 hm).elim h2 fun h=>hik (by simpa using h),h3,h4,h5,h6,h7⟩)
 obtain ⟨os',fs',hv,hh⟩:=hany _ _ _ _ _ _ r k1 (fun h1=>h1.elim hA fun ⟨x,hx⟩=>nr x hx) (fun x h1=>h1.elim (hM x) (nr x)) k2 hst
 have hself:fT val k (.pointer (some ⟨r,0,none⟩))=val:=by
  funext j; unfold fT; split
  ·rename_i e; rw [e,hval]
  ·rfl
 have hvk:=q6 (u:=.pointer (some ⟨r,0,none⟩)) hc h.split ho h.virt
 rw [hself] at hvk
 refine ⟨jS vf o.dst (.pointer (some ⟨r,0,none⟩)),os',fs',by rw [h.split]; simp,fun i hi=>(h.sub i hi).imp (fun h=>by simp [h]) id,h.clos,h.defers,h.size,h.act,hvk,fun x ox hx hnD hox=>?_,fun i hi hiv=>h.early i hi fun hm=>hiv (by simp [hm]),
  fun i j r' hi hiv hj hjv e1 e2=>h.inj i j r' hi (fun hm=>hiv (by simp [hm])) hj (fun hm=>hjv (by simp [hm])) e1 e2,hh,hv⟩
 have hxv:x∈vd:=(List.mem_append.1 hx).resolve_right fun h=>hnD (by simp at h; exact h ▸ hD)
 have:=(h.pend x ox hxv hnD hox).keep (u:=.pointer (some ⟨r,0,none⟩)) hk hxv (.inr (Below.refl _ _))
 rw [hself] at this
 exact this
theorem do_pendA (hc:CheckedA L (iE L []) c) (hdst:eO N L=true) {Q:iX} {D:Nat→Prop} {vd c':List Nat} {k:Nat} {val:Nat→Value} {vf:Fr} {os:List Own} {fs:List bA} {a:Act} {w:World} {o:Oper} {rest:List Nat}
  (h:InvA P N L f0 G K c D vd c' val vf os fs a w) (ho:L[k]? = some o) (hk:k∈vd) (hnD:¬ D k) (hready:∀ j,gB .any L j k→D j)
  (next:∀ a',InvA P N L f0 G K c (fun i=>D i∨i=k) vd c' val vf os fs a' w→dK P L.toArray (Qhat N G Q) rest a' w):dK P L.toArray (Qhat N G Q) (k::rest) a w:=by
 have hdk:=dst_of hdst ho
 obtain ⟨_,fk,hsrc,hcase⟩:=h.pend k o hk hnD ho
 have hkat:KAt (cQ L o) fk a:=gT h.clos hnD hready h.act hsrc
 have hkat':KAt (eK o.op) fk a:=fun t v ht=>hkat t v (List.mem_append_left _ ht)
 have hkc:k∈c:=by rw [h.split]; simp [hk]
 have distinct:∀ j oj,D j→L[j]? = some oj→∀ t,o.dst=some t→oj.dst≠some t:=fun j oj hj hjo t ht =>
  hc.dsts hkc (h.inC hc hj) (fun e=>hnD (e ▸ hj)) ho hjo ht
 have eqv:∀ i,((D i∨i=k)∧i ∉ vd)↔(D i∧i ∉ vd):=fun i=>by
  constructor
  ·rintro ⟨h1 | rfl,h2⟩
   ·exact ⟨h1,h2⟩
   ·exact absurd hk h2
  ·rintro ⟨h1,h2⟩; exact ⟨.inl h1,h2⟩
 have inv':InvA P N L f0 G K c (fun i=>D i∨i=k) vd c' val vf os fs (a.put o.dst (val k)) w:=by
  refine ⟨h.split,fun i hi=>hi.elim (h.sub i) (fun e=>.inl (e ▸ hk)),fun i hi j hj=>?_,?_,?_,lE hdk h.size ho distinct h.act,h.virt,fun x ox hx hnx=>h.pend x ox hx (fun hx'=>hnx (.inl hx')),
   fun i hi hiv=>h.early i ((eqv i).1 ⟨hi,hiv⟩).1 hiv,fun i j r hi hiv hj hjv=>h.inj i j r ((eqv i).1 ⟨hi,hiv⟩).1 hiv ((eqv j).1 ⟨hj,hjv⟩).1 hjv,rB h.st eqv (fun _ _ _=>rfl),h.vc⟩
  ·rcases hi with hi | rfl
   ·exact .inl (h.clos i hi j hj)
   ·exact .inl (hready j hj)
  ·have:=h.defers; cases hd:o.dst <;> simpa [Act.put] using this
  ·cases hd:o.dst <;> simp [Act.put,h.size]
 have ho':L.toArray[k]? = some o:=by simpa using ho
 simp only [dK,ho']
 rcases hcase with ⟨h1,h2⟩ | ⟨h1,h2⟩
 ·rw [fW hkat h1]
  simp only [Bool.false_eq_true,if_false]
  rw [← h2]
  exact next _ inv'
 ·rw [fW hkat h1]
  simp only [if_true]
  left
  unfold Oper.wpA
  rw [h2 a w hkat' (.inr (Below.refl _ _))]
  exact next _ inv'
def mX (P:Program) (L:List Oper):Bool:=L.all fun o=>match o.op,o.guard with
 | .alloc t,none=>(match P.info? t with
  | some i=>i.zero.isSome
  | none=>false)
 | _,_=>true
theorem tM (h:mX P L=true) {k:Nat} {o:Oper} {t:TypeId} (ho:L[k]? = some o) (hop:o.op=.alloc t) (hg:o.guard=none):∃ z,AllocZ P t z:=by
 have:=List.all_eq_true.1 h o (List.mem_of_getElem? ho)
 simp only [hop,hg] at this
 cases hi:P.info? t with
 | none=>simp [hi] at this
 | some i =>
  simp only [hi] at this
  obtain ⟨z,hz⟩:=Option.isSome_iff_exists.1 this
  exact ⟨z.cells,fun w=>by simp [val,Instr.alloc,newVar,newRow,zeroValue,typeInfo,hi,hz]⟩
theorem do_ea (hc:CheckedA L (iE L []) c) (hdst:eO N L=true) (hz0:mX P L=true) {Q:iX} {D:Nat→Prop} {vd c':List Nat} {k:Nat} {val:Nat→Value} {vf:Fr} {os:List Own} {fs:List bA} {a:Act} {w:World} {o:Oper} {rest:List Nat}
  (h:InvA P N L f0 G K c D vd c' val vf os fs a w) (ho:L[k]? = some o) (hea:isEa o=true) (hnD:¬ D k) (hready:∀ j,gB .any L j k→D j)
  (next:∀ val' a' w',InvA P N L f0 G K c (fun i=>D i∨i=k) vd c' val' vf os fs a' w'→dK P L.toArray (Qhat N G Q) rest a' w'):dK P L.toArray (Qhat N G Q) (k::rest) a w:=by
 have hdk:=dst_of hdst ho
 obtain ⟨⟨t,hop⟩,hg⟩:=isEa_iff hea
 obtain ⟨z,hz⟩:=tM hz0 ho hop hg
 have hkv:k ∉ vd:=fun hm=>by
  have:=(h.pend k o hm hnD ho).1
  rw [tI hea] at this; cases this
 have hkc:k∈c:=(hc.all k).2 (List.getElem?_eq_some_iff.1 ho).1
 have distinct:∀ j oj,D j→L[j]? = some oj→∀ t,o.dst=some t→oj.dst≠some t:=fun j oj hj hjo t ht =>
  hc.dsts hkc (h.inC hc hj) (fun e=>hnD (e ▸ hj)) ho hjo ht
 have hb:Below w.heap.size w (w.alloc (.cells z t)):=(Below.refl _ _).alloc (Nat.le_refl _) _
 let u:Value:=.pointer (some ⟨w.heap.size,0,none⟩)
 have hself:fT val k u k=u:=by simp [fT]
 have hval:∀ i,i≠k→fT val k u i=val i:=fun i hi=>by simp [fT,hi]
 have hnD':∀ i,D i→i≠k:=fun i hi e=>hnD (e ▸ hi)
 have old:∀ i r,D i→i ∉ vd→val i=.pointer (some ⟨r,0,none⟩)→r<w.heap.size:=fun i r hi hiv e=>by
  obtain ⟨oi,ti,zi,ri,g1,g2,g3,g4,g5,_⟩:=h.early i hi hiv
  rw [g5] at e
  simp only [Value.pointer.injEq,Option.some.injEq,Addr.mk.injEq,and_true] at e
  subst e
  exact (Array.getElem?_eq_some_iff.1 (h.st.kept ri _ (.inr ⟨i,oi,ti,zi,hi,hiv,g1,g2,g4,g5,rfl⟩)).2.1).1
 have hst:Holds (GE P L G (fun i=>D i∨i=k) vd (fT val k u)) os fs (w.alloc (.cells z t)):=by
  refine Holds.iff (h.st.apartB (.cells z t)) (fun b=>?_) fun b x hb=>?_
  ·constructor
   ·rintro (h1 | ⟨x,i,oi,ti,zi,h1,h2,h3,h4,h5,h6,h7⟩)
    ·exact .inl (.inl h1)
    ·rcases h1 with h1 | rfl
     ·rw [hval i (hnD' i h1)] at h6
      exact .inl (.inr ⟨x,i,oi,ti,zi,h1,h2,h3,h4,h5,h6,h7⟩)
     ·rw [hself] at h6
      simp only [u,Value.pointer.injEq,Option.some.injEq,Addr.mk.injEq,and_true] at h6
      exact .inr h6.symm
   ·rintro ((h1 | ⟨x,i,oi,ti,zi,h1,h2,h3,h4,h5,h6,h7⟩) | rfl)
    ·exact .inl h1
    ·exact .inr ⟨x,i,oi,ti,zi,.inl h1,h2,h3,h4,h5,by rw [hval i (hnD' i h1)]; exact h6,h7⟩
    ·exact .inr ⟨_,k,o,t,z,.inr rfl,hkv,ho,hop,hz,hself,rfl⟩
  ·rcases hb with h1 | ⟨i,oi,ti,zi,h1,h2,h3,h4,h5,h6,h7⟩
   ·exact .inl (.inl h1)
   ·rcases h1 with h1 | rfl
    ·rw [hval i (hnD' i h1)] at h6
     exact .inl (.inr ⟨i,oi,ti,zi,h1,h2,h3,h4,h5,h6,h7⟩)
    ·rw [hself] at h6
     simp only [u,Value.pointer.injEq,Option.some.injEq,Addr.mk.injEq,and_true] at h6
     rw [ho] at h3
     obtain rfl:=Option.some.inj h3
     rw [hop] at h4
     simp only [Op.alloc.injEq] at h4
     subst h4
     rw [h7,AllocZ.uniq h5 hz]
     exact .inr ⟨h6.symm,rfl⟩
 have inv':InvA P N L f0 G K c (fun i=>D i∨i=k) vd c' (fT val k u) vf os fs (a.put o.dst u) (w.alloc (.cells z t)):=by
  refine ⟨h.split,fun i hi=>?_,fun i hi j hj=>?_,?_,?_,?_,fun t v ht=>?_,fun x ox hx hnx hox=>?_,fun i hi hiv=>?_,fun i j r hi hiv hj hjv e1 e2=>?_,hst,h.vc⟩
  ·rcases hi with hi | rfl
   ·exact h.sub i hi
   ·exact .inr ⟨o,ho,hea⟩
  ·rcases hi with hi | rfl
   ·exact .inl (h.clos i hi j hj)
   ·exact .inl (hready j hj)
  ·have:=h.defers; cases hd:o.dst <;> simpa [Act.put] using this
  ·cases hd:o.dst <;> simp [Act.put,h.size]
  ·have:=lE (val:=fT val k u) (f0:=f0) (D:=D) hdk h.size ho distinct (fun t v ht=>h.act t v (by
    rcases ht with ⟨j,oj,h1,h2,h3,h4⟩ | ht
    ·exact .inl ⟨j,oj,h1,h2,h3,by rw [hval j (hnD' j h1)] at h4; exact h4⟩
    ·exact .inr ht))
   rw [hself] at this
   exact this
  ·rcases h.virt t v ht with ⟨j,oj,h1,h2,h3,h4⟩ | h1
   ·exact .inl ⟨j,oj,h1,h2,h3,by rw [hval j (fun e=>hkv (e ▸ h1))]; exact h4⟩
   ·exact .inr h1
  ·have hxk:x≠k:=fun e=>hkv (e ▸ hx)
   obtain ⟨g0,fk,g1,g2⟩:=h.pend x ox hx (fun hd=>hnx (.inl hd)) hox
   refine ⟨g0,fk,fun t v ht hl=>?_,?_⟩
   ·rcases g1 t v ht hl with ⟨j,oj,q1,q2,q3,q4,q5⟩ | q
    ·exact .inl ⟨j,oj,q1,q2,q3,by rw [hval j (fun e=>hkv (e ▸ q1))]; exact q4,q5⟩
    ·exact .inr q
   ·rw [hval x hxk]
    rcases g2 with g2 | ⟨g2,g3⟩
    ·exact .inl g2
    ·exact .inr ⟨g2,fun a w'' ha hb'=>g3 a w'' ha (hb'.imp id fun hb'=>hb.trans (hb'.mono hb.size))⟩
  ·rcases hi with hi | rfl
   ·obtain ⟨oi,ti,zi,ri,g1,g2,g3,g4,g5,g6⟩:=h.early i hi hiv
    exact ⟨oi,ti,zi,ri,g1,g2,g3,g4,by rw [hval i (hnD' i hi)]; exact g5,g6⟩
   ·refine ⟨o,t,z,w.heap.size,ho,hop,hg,hz,hself,fun hA=>?_,fun x hM=>?_⟩
    ·exact Nat.lt_irrefl _ (h.st.low _ (.inl hA)).1
    ·exact Nat.lt_irrefl _ (Array.getElem?_eq_some_iff.1 (h.st.kept _ x (.inl hM)).2.1).1
  ·rcases hi with hi | rfl
   ·rw [hval i (hnD' i hi)] at e1
    rcases hj with hj | rfl
    ·rw [hval j (hnD' j hj)] at e2
     exact h.inj i j r hi hiv hj hjv e1 e2
    ·rw [hself] at e2
     simp only [u,Value.pointer.injEq,Option.some.injEq,Addr.mk.injEq,and_true] at e2
     have:=old i r hi hiv e1
     omega
   ·rw [hself] at e1
    simp only [u,Value.pointer.injEq,Option.some.injEq,Addr.mk.injEq,and_true] at e1
    rcases hj with hj | rfl
    ·rw [hval j (hnD' j hj)] at e2
     have:=old j r hj hjv e2
     omega
    ·rfl
 have ho':L.toArray[k]? = some o:=by simpa using ho
 simp only [dK,ho']
 have hwant:Region.wanted o (yielded L.toArray a.tmps)=true:=by simp [Region.wanted,hg]
 rw [hwant]
 simp only [if_true]
 left
 unfold Oper.wpA
 have hrun:(execOp a.eval o).run P w=.ok (.value u) (w.alloc (.cells z t)):=by
  have:=hz w
  unfold execOp
  simp only [hop]
  exact this
 rw [hrun]
 exact next _ _ _ inv'
theorem do_dynA (hc:CheckedA L (iE L []) c) (hdst:eO N L=true) {Q:iX} {D:Nat→Prop} {vd c':List Nat} {k:Nat} {val:Nat→Value} {vf:Fr} {os:List Own} {fs:List bA} {a:Act} {w:World} {o:Oper} {rest:List Nat}
  (h:InvA P N L f0 G K c D vd (k::c') val vf os fs a w) (ho:L[k]? = some o) (hdyn:dT o.op=true) (hea:isEa o=false) (hnD:¬ D k) (hready:∀ j,gB .any L j k→D j)
  (next:∀ val' vf' os' fs' a' w',InvA P N L f0 G K c (fun i=>D i∨i=k) (vd++[k]) c' val' vf' os' fs' a' w'→dK P L.toArray (Qhat N G Q) rest a' w'):dK P L.toArray (Qhat N G Q) (k::rest) a w:=by
 have hdk:=dst_of hdst ho
 have hnod:=hc.nodup
 rw [h.split,List.nodup_append] at hnod
 have hk:k ∉ vd:=fun hm=>hnod.2.2 k hm k qP rfl
 have hkc:k∈c:=by rw [h.split]; simp
 have src:=src_nextA hc h.split ho h.virt
 have hkat:KAt (cQ L o) vf a:=gT h.clos hnD hready h.act src
 have hkat':KAt (eK o.op) vf a:=fun t v ht=>hkat t v (List.mem_append_left _ ht)
 have distinct:∀ j oj,D j→L[j]? = some oj→∀ t,o.dst=some t→oj.dst≠some t:=fun j oj hj hjo t ht =>
  hc.dsts hkc (h.inC hc hj) (fun e=>hnD (e ▸ hj)) ho hjo ht
 have hvc:=h.vc
 rw [jG,f9,ho] at hvc
 simp only at hvc
 rw [kC] at hvc
 have eqv:∀ i,((D i∨i=k)∧i ∉ vd++[k])↔(D i∧i ∉ vd):=fun i=>by
  constructor
  ·rintro ⟨h1 | rfl,h2⟩
   ·exact ⟨h1,fun hm=>h2 (by simp [hm])⟩
   ·simp at h2
  ·rintro ⟨h1,h2⟩; exact ⟨.inl h1,fun hm=>(List.mem_append.1 hm).elim h2 fun h=>hnD (by simp at h; exact h ▸ h1)⟩
 have inv':∀ (u:Value) (os':List Own) (fs':List bA) (w':World),Holds (GE P L G D vd val) os' fs' w'→VCops P true L (g8 L c') (jS vf o.dst u) os' fs' K→((∀ i o,i∈vd→L[i]? = some o→D i∨nO o.op=true)∨Below w.heap.size w w') →
   InvA P N L f0 G K c (fun i=>D i∨i=k) (vd++[k]) c' (fT val k u) (jS vf o.dst u) os' fs' (a.put o.dst u) w':=by
  intro u os' fs' w' hst hv hpd
  have hset:fT val k u k=u:=by simp [fT]
  have hval:∀ i,D i→fT val k u i=val i:=fun i hi=>by
   have:i≠k:=fun e=>hnD (e ▸ hi)
   simp [fT,this]
  refine ⟨by rw [h.split]; simp,fun i hi=>?_,fun i hi j hj=>?_,?_,?_,?_,q6 hc h.split ho h.virt,fun x ox hx hnx hox=>?_,fun i hi hiv=>?_,fun i j r hi hiv hj hjv e1 e2=>?_,rB hst eqv (fun i hi _=>hval i hi),hv⟩
  ·rcases hi with hi | rfl
   ·exact (h.sub i hi).imp (fun h=>by simp [h]) id
   ·simp
  ·rcases hi with hi | rfl
   ·exact .inl (h.clos i hi j hj)
   ·exact .inl (hready j hj)
  ·have:=h.defers; cases hd:o.dst <;> simpa [Act.put] using this
  ·cases hd:o.dst <;> simp [Act.put,h.size]
  ·have:=lE (val:=fT val k u) (f0:=f0) (D:=D) hdk h.size ho distinct (fun t v ht=>h.act t v (by
    rcases ht with ⟨j,oj,h1,h2,h3,h4⟩ | ht
    ·exact .inl ⟨j,oj,h1,h2,h3,by rw [hval j h1] at h4; exact h4⟩
    ·exact .inr ht))
   rw [hset] at this
   exact this
  ·have hxv:x∈vd:=by
    rcases List.mem_append.1 hx with hx | hx
    ·exact hx
    ·exact absurd (.inr (by simpa using hx)) hnx
   have hnx':¬ D x:=fun hd=>hnx (.inl hd)
   rcases hpd with hpd | hb
   ·rcases hpd x ox hxv hox with h1 | h1
    ·exact absurd h1 hnx'
    ·exact (h.pend x ox hxv hnx' hox).keep hk hxv (.inl h1)
   ·exact (h.pend x ox hxv hnx' hox).keep hk hxv (.inr hb)
  ·obtain ⟨g1,g2⟩:=(eqv i).1 ⟨hi,hiv⟩
   rw [hval i g1]; exact h.early i g1 g2
  ·obtain ⟨g1,g2⟩:=(eqv i).1 ⟨hi,hiv⟩
   obtain ⟨g3,g4⟩:=(eqv j).1 ⟨hj,hjv⟩
   rw [hval i g1] at e1
   rw [hval j g3] at e2
   exact h.inj i j r g1 g2 g3 g4 e1 e2
 have ho':L.toArray[k]? = some o:=by simpa using ho
 simp only [dK,ho']
 cases hg:gd L vf o.guard with
 | none=>simp only [hg,orF] at hvc
 | some b =>
  rw [fW hkat hg]
  cases b with
  | false =>
   simp only [hg,orF] at hvc
   simp only [Bool.false_eq_true,if_false]
   exact next _ _ _ _ _ _ (inv' undef os fs w h.st hvc (.inr (Below.refl _ _)))
  | true =>
   simp only [hg,orF] at hvc
   simp only [if_true]
   left
   unfold Oper.wpA
   cases hv:detv vf o.op with
   | some v =>
    simp only [hv,orV] at hvc
    rw [gK P hkat' hv w]
    exact next _ _ _ _ _ _ (inv' v os fs w h.st hvc (.inr (Below.refl _ _)))
   | none =>
    simp only [hv,orV] at hvc
    obtain ⟨s,hs⟩:=DoK.sem o hvc
    rw [hs.same a hkat']
    have main:Comes1 P (fun v w'=>((∀ i o,i∈vd→L[i]? = some o→D i∨nO o.op=true)∨Below w.heap.size w w')∧∃ os' fs',VCops P true L (g8 L c') (jS vf o.dst v) os' fs' K∧Holds (GE P L G D vd val) os' fs' w') (s.run P w):=by
     cases hst:sD o.op with
     | false=>exact (hs.grw hst _ w h.st).mono fun v w' ⟨h1,h2⟩=>⟨.inr h1,h2⟩
     | true =>
      refine (hs.dyn _ w h.st).mono fun v w' h2=>⟨.inl fun i oi hi hoi=>?_,h2⟩
      cases hpu:nO oi.op with
      | true=>exact .inr rfl
      | false =>
      left
      obtain ⟨pre,post,hp⟩:=List.append_of_mem hi
      have:=(hc.pair pre i (post++k::c') k oi o (by rw [h.split,hp]; simp) qP hoi ho).2 (.inr (.inr (.inr ⟨hst,hpu⟩)))
      exact (nY this).closed h.clos hready
    generalize s.run P w=res at main
    match res,main with
    | .ok (.value v) w',⟨h1,os',fs',h2,h3⟩=>exact next _ _ _ _ _ _ (inv' v os' fs' w' h3 h2 h1)
    | .ok .skip w',⟨h1,os',fs',h2,h3⟩=>exact next _ _ _ _ _ _ (inv' undef os' fs' w' h3 h2 h1)
    | .ok (.enter g args) w',hcall =>
     refine Calls.mono hcall ?_
     rintro e w'' ⟨v,rfl,h1,os',fs',h2,h3⟩
     exact next _ _ _ _ _ _ (inv' v os' fs' w'' h3 h2 h1)
    | .ok (.round l g tmps assign body) w',hcall =>
     refine RoundIn.mono hcall ?_
     rintro e w'' ⟨v,rfl,h1,os',fs',h2,h3⟩
     exact next _ _ _ _ _ _ (inv' v os' fs' w'' h3 h2 h1)
theorem vJ (hc:CheckedA L (iE L []) c):∀ (pre:List Nat) {D:Nat→Prop} {vd c':List Nat} {val:Nat→Value} {vf:Fr} {fs:List bA} {os:List Own} {a:Act} {w:World},
  InvA P N L f0 G K c D vd (pre++c') val vf os fs a w→(∀ x,x∈pre→∀ o,L[x]? = some o→dT o.op=false∨D x) →
  ∃ val' vf' os' fs',InvA P N L f0 G K c D (vd++pre) c' val' vf' os' fs' a w
 | [],D,vd,c',val,vf,fs,os,a,w,h,_=>⟨val,vf,os,fs,by simpa using h⟩
 | x::pre,D,vd,c',val,vf,fs,os,a,w,h,hd=>by
  have hx:x<L.length:=(hc.all x).1 (by rw [h.split]; simp)
  have hox:L[x]? = some L[x]:=by simp [hx]
  obtain ⟨val1,vf1,os1,fs1,h1⟩:∃ val1 vf1 os1 fs1,InvA P N L f0 G K c D (vd++[x]) (pre++c') val1 vf1 os1 fs1 a w:=by
   rcases hd x qP _ hox with h1 | h1
   ·obtain ⟨v1,v2,v3,h2⟩:=virt_stepA hc h hox h1
    exact ⟨v1,v2,os,v3,h2⟩
   ·obtain ⟨v2,v3,v4,h2⟩:=virt_ea hc h h1
    exact ⟨val,v2,v3,v4,h2⟩
  obtain ⟨val2,vf2,os2,fs2,h2⟩:=vJ hc pre (vd:=vd++[x]) h1 (fun y hy=>hd y (by simp [hy]))
  exact ⟨val2,vf2,os2,fs2,by simpa using h2⟩
theorem simEa (hc:CheckedA L (iE L []) c) (hdst:eO N L=true) (hz0:mX P L=true) {Q:iX} (hQ:Q .normal=K):∀ (l:List Nat) (D:Nat→Prop) {vd c':List Nat} {val:Nat→Value} {vf:Fr} {os:List Own} {fs:List bA} {a:Act} {w:World},
  InvA P N L f0 G K c D vd c' val vf os fs a w→(∀ i,i<L.length↔D i∨i∈l)→l.Nodup→(∀ i,i∈l→¬ D i) →
  (∀ pre i post,l=pre++i::post→∀ j,gB .any L j i→D j∨j∈pre)→dK P L.toArray (Qhat N G Q) l a w
 | [],D,vd,c',val,vf,os,fs,a,w,h0,hall,_,_,_=>by
  have hallD:∀ i,i<L.length→D i:=fun i hi=>((hall i).1 hi).resolve_right qP
  obtain ⟨val,vf,os,fs,h⟩:=vJ (c':=[]) hc c' (by simpa using h0) (fun x hx o hox=>.inr (hallD x (List.getElem?_eq_some_iff.1 hox).1))
  have hv:=h.vc
  have hvd:∀ j,j∈vd++c'→D j:=fun j hj=>hallD j ((hc.all j).1 (by rw [h.split]; simpa using hj))
  have hin:∀ j,D j→j∈vd++c':=fun j hj=>by
   have:=h.inC hc hj
   rw [h.split] at this; simpa using this
  have hst:Holds G os fs w:=Holds.iff h.st (fun b=>⟨.inl,fun h1=>h1.elim id fun ⟨x,i,o,t,z,g1,g2,_⟩=>absurd (hin i g1) g2⟩) fun b x hb=>.inl hb
  refine ⟨G,Ext.refl G,vf,os,fs,⟨h.defers,h.size,fun t v ht=>h.act t v ?_⟩,hst,by rw [hQ]; exact hv⟩
  rcases h.virt t v ht with ⟨j,o,h1,h2,h3,h4⟩ | ⟨h1,h2⟩
  ·exact .inl ⟨j,o,hvd j h1,h2,h3,h4⟩
  ·exact .inr ⟨h1,fun j o hj=>h2 j o (hin j hj)⟩
 | i::rest,D,vd,c',val,vf,os,fs,a,w,h,hall,hnod,hdis,hbef=>by
  have hi:i<L.length:=(hall i).2 (.inr qP)
  have ho:L[i]? = some L[i]:=by simp [hi]
  have hnD:¬ D i:=hdis i qP
  have hready:∀ j,gB .any L j i→D j:=fun j hj=>(hbef [] i rest rfl j hj).resolve_right qP
  have nx:∀ {vd c':List Nat} {val:Nat→Value} {vf:Fr} {os:List Own} {fs:List bA} {a:Act} {w:World},
    InvA P N L f0 G K c (fun x=>D x∨x=i) vd c' val vf os fs a w→dK P L.toArray (Qhat N G Q) rest a w:=by
   intro vd c' val vf os fs a w h'
   refine simEa hc hdst hz0 hQ rest (fun x=>D x∨x=i) h' (fun x=>?_) (List.nodup_cons.1 hnod).2 (fun x hx hx'=>?_) (fun pre x post hp j hj=>?_)
   ·rw [hall x,List.mem_cons]
    constructor
    ·rintro (h | h | h)
     ·exact .inl (.inl h)
     ·exact .inl (.inr h)
     ·exact .inr h
    ·rintro ((h | h) | h)
     ·exact .inl h
     ·exact .inr (.inl h)
     ·exact .inr (.inr h)
   ·rcases hx' with hx' | rfl
    ·exact hdis x (by simp [hx]) hx'
    ·exact (List.nodup_cons.1 hnod).1 hx
   ·rcases hbef (i::pre) x post (by rw [hp]; rfl) j hj with hj' | hj'
    ·exact .inl (.inl hj')
    ·rcases List.mem_cons.1 hj' with rfl | hj'
     ·exact .inl (.inr rfl)
     ·exact .inr hj'
  cases hea:isEa L[i] with
  | true=>exact do_ea hc hdst hz0 h ho hea hnD hready fun _ _ _ h'=>nx h'
  | false =>
  by_cases hiv:i∈vd
  ·exact do_pendA hc hdst h ho hiv hnD hready fun a' h'=>nx h'
  ·have hic:i∈c:=(hc.all i).2 hi
   rw [h.split] at hic
   obtain ⟨pre,post,hp⟩:=List.append_of_mem ((List.mem_append.1 hic).resolve_left hiv)
   have hpre:∀ x,x∈pre→∀ o,L[x]? = some o→dT o.op=false∨D x:=by
    intro x hx o hox
    cases hd:dT o.op with
    | false=>exact .inl rfl
    | true =>
     obtain ⟨p1,p2,hp2⟩:=List.append_of_mem hx
     have:=(hc.pair (vd++p1) x (p2++i::post) i o L[i] (by rw [h.split,hp,hp2]; simp) qP hox ho).2 (.inr (.inr (.inl ⟨hd,hea⟩)))
     exact .inr ((nY this).closed h.clos hready)
   rw [hp] at h
   obtain ⟨val1,vf1,os1,fs1,h1⟩:=vJ hc pre h hpre
   cases hdyn:dT L[i].op with
   | false =>
    obtain ⟨val2,vf2,fs2,h2⟩:=virt_stepA hc h1 ho hdyn
    exact do_pendA hc hdst h2 ho qP hnD hready fun a' h'=>nx h'
   | true=>exact do_dynA hc hdst h1 ho hdyn hea hnD hready fun _ _ _ _ _ _ h'=>nx h'
end
theorem fN {P:Program} {N id:Nat} {L:List Oper} {f:Fr} {os:List Own} {fs:List bA} {K:jD} (c g:List Nat) (hok:drawA L c g=true) (hdst:eO N L=true) (hz:mX P L=true)
  (k:VCops P true L (g8 L c) f os fs K):DrawK P N id L f os fs K:=by
 refine ⟨fun G Q hQ r a w hk hw=>sT fun t=>?_⟩
 have hc:=drawA_sound hok
 have hord:=uB hok (P.follows .mixedOrders) t
 have hw':Holds G os fs { w with drawn:=w.drawn+1 }:=hw.grow ((Below.refl w.heap.size w).drew)
 refine simEa (f0:=f) hc hdst hz hQ _ (fun _=>False) (vd:=[]) (c':=c) (val:=fun _=>undef) (vf:=f) (os:=os) (fs:=fs) ?_ (fun i=>by simpa using (hord.all i).symm) hord.nodup (fun _ _ h=>h) (fun pre i post hp j hj=>.inr (hord.before pre i post hp j hj))
 exact ⟨rfl,fun _ h=>h.elim,fun _ h=>h.elim,hk.defers,hk.size,fun t v ht=>hk.holds t v (by
  rcases ht with ⟨_,_,h,_⟩ | h
  ·exact h.elim
  ·exact h.1),fun t v ht=>.inr ⟨ht,fun j o hj=>by simp at hj⟩,fun k o hk=>by simp at hk,fun _ h=>h.elim,fun _ _ _ h=>h.elim,
  Holds.iff hw' (fun b=>⟨fun h1=>h1.elim (fun h=>h) fun ⟨x,i,o,t,z,g1,_⟩=>g1.elim,.inl⟩) fun b x hb=>hb.elim (fun h=>h) fun ⟨i,o,t,z,g1,_⟩=>g1.elim,k⟩
structure KN (B P ul u0 u1 u2 vw v2 v1 U V:Nat):Prop where
 hU:U=ul+P*(u0+B*(u1+B*u2))
 hV:V=vw+P*(v2+B*v1)
 hul:ul<P
 hvw:vw<P
 hu0:u0<B
 hu1:u1<B
 hv2:v2<B
 hv1:v1<B
 htop:B≤2*v1
 hlt:U<B*V
theorem KN.high {B P ul u0 u1 u2 vw v2 v1 U V g r:Nat} (h:KN B P ul u0 u1 u2 vw v2 v1 U V) (hg:g*v1+r=u2*B+u1) (ht:r*B+u0<g*v2):U<g*V:=by
 obtain ⟨hU,hV,hul,hvw,hu0,hu1,hv2,hv1,htop,hlt⟩:=h
 have e1:U<P*(u0+B*(u1+B*u2)+1):=by rw [hU,Nat.mul_add P _ 1]; omega
 have e2:u0+B*(u1+B*u2)+1≤g*(v2+B*v1):=by
  rw [Nat.add_comm u1,Nat.mul_comm B u2,← hg,Nat.mul_add,Nat.mul_add,Nat.mul_comm B r,Nat.mul_left_comm g B v1]
  omega
 have e3:P*(u0+B*(u1+B*u2)+1)≤P*(g*(v2+B*v1)):=Nat.mul_le_mul_left _ e2
 have e4:g*V=g*vw+P*(g*(v2+B*v1)):=by rw [hV,Nat.mul_add,Nat.mul_left_comm g P]
 omega
theorem KN.vhi {B P ul u0 u1 u2 vw v2 v1 U V:Nat} (h:KN B P ul u0 u1 u2 vw v2 v1 U V):V<P*(B*(v1+1)):=by
 obtain ⟨hU,hV,hul,hvw,hu0,hu1,hv2,hv1,htop,hlt⟩:=h
 have e:P*(v2+B*v1+1)≤P*(B*(v1+1)):=Nat.mul_le_mul_left _ (by rw [Nat.mul_add]; omega)
 rw [hV]
 rw [Nat.mul_add P _ 1] at e
 omega
theorem KN.vlo {B P ul u0 u1 u2 vw v2 v1 U V:Nat} (h:KN B P ul u0 u1 u2 vw v2 v1 U V):P*(B*v1)≤V:=by
 rw [h.hV,Nat.mul_add]; omega
theorem KN.ulo {B P ul u0 u1 u2 vw v2 v1 U V:Nat} (h:KN B P ul u0 u1 u2 vw v2 v1 U V):P*(B*(u2*B+u1))≤U:=by
 have e:u1+B*u2=u2*B+u1:=by rw [Nat.mul_comm B,Nat.add_comm]
 rw [h.hU,e,Nat.mul_add P u0]; omega
theorem KN.over {B P ul u0 u1 u2 vw v2 v1 U V g:Nat} (h:KN B P ul u0 u1 u2 vw v2 v1 U V) (h1:g*v1≤u2*B+u1) (h2:g≤B) (hg:0<g):g*V<U+2*V:=by
 have a:=h.vhi
 have b:=h.vlo
 have c:=h.ulo
 have e1:g*V<g*(P*(B*(v1+1))):=Nat.mul_lt_mul_of_pos_left a hg
 have e2:g*(P*(B*(v1+1)))=P*(B*(g*v1))+P*(B*g):=by
  rw [Nat.mul_left_comm,Nat.mul_left_comm g B,Nat.mul_add,Nat.mul_one,Nat.mul_add,Nat.mul_add]
 have e3:P*(B*(g*v1))≤P*(B*(u2*B+u1)):=Nat.mul_le_mul_left _ (Nat.mul_le_mul_left _ h1)
 have e4:P*(B*g)≤P*(B*(2*v1)):=Nat.mul_le_mul_left _ (Nat.mul_le_mul_left _ (Nat.le_trans h2 h.htop))
 have e5:P*(B*(2*v1))=2*(P*(B*v1)):=by rw [Nat.mul_left_comm B,Nat.mul_left_comm P]
 omega
theorem KN.first {B P ul u0 u1 u2 vw v2 v1 U V:Nat} (h:KN B P ul u0 u1 u2 vw v2 v1 U V) (hlt:u2<v1) :
  U<((u2*B+u1)/v1+1)*V∧(u2*B+u1)/v1*V<U+2*V∧(u2*B+u1)/v1<B:=by
 have hd:=Nat.div_add_mod (u2*B+u1) v1
 have hm:=Nat.mod_lt (u2*B+u1) (show 0<v1 by omega)
 have hB:(u2*B+u1)/v1<B:=by
  rw [Nat.div_lt_iff_lt_mul qN]
  have:=Nat.mul_le_mul_right B (Nat.succ_le_of_lt hlt)
  rw [Nat.succ_mul] at this
  have:=h.hu1
  rw [Nat.mul_comm B v1]
  omega
 have hVp:0<V:=by
  have:=h.vlo
  have:0<P*(B*v1):=Nat.mul_pos (by have:=h.hul; omega) (Nat.mul_pos (by have:=h.hu1; omega) qN)
  omega
 refine ⟨?_,?_,hB⟩
 ·have e1:U<P*(B*(u2*B+u1+1)):=by
   have:P*(u0+B*(u1+B*u2)+1)≤P*(B*(u2*B+u1+1)):=Nat.mul_le_mul_left _ (by
    rw [Nat.mul_add B _ 1,Nat.add_comm (u2*B),Nat.mul_comm u2]; have:=h.hu0; omega)
   rw [Nat.mul_add P _ 1] at this
   rw [h.hU]; have:=h.hul; omega
  have e2:u2*B+u1+1≤((u2*B+u1)/v1+1)*v1:=by
   rw [Nat.add_mul,Nat.mul_comm _ v1]; omega
  have e3:P*(B*(u2*B+u1+1))≤P*(B*(((u2*B+u1)/v1+1)*v1)):=Nat.mul_le_mul_left _ (Nat.mul_le_mul_left _ e2)
  have e4:P*(B*(((u2*B+u1)/v1+1)*v1))=((u2*B+u1)/v1+1)*(P*(B*v1)):=by rw [Nat.mul_left_comm B,Nat.mul_left_comm P]
  have e5:((u2*B+u1)/v1+1)*(P*(B*v1))≤((u2*B+u1)/v1+1)*V:=Nat.mul_le_mul_left _ h.vlo
  omega
 ·rcases Nat.eq_zero_or_pos ((u2*B+u1)/v1) with h0 | h0
  ·rw [h0]; omega
  ·exact h.over (by rw [Nat.mul_comm]; omega) (Nat.le_of_lt hB) h0
theorem KN.max {B P ul u0 u1 u2 vw v2 v1 U V:Nat} (h:KN B P ul u0 u1 u2 vw v2 v1 U V) (hle:v1≤u2):(B - 1)*V<U+2*V:=by
 have h1:2≤B∨B≤1:=by omega
 rcases h1 with h1 | h1
 ·refine h.over ?_ qN qN
  have:(B - 1)*v1≤B*u2:=Nat.mul_le_mul qN hle
  rw [Nat.mul_comm u2]; omega
 ·have:=h.hv1; have:=h.htop; omega
theorem win_lt {l:List Nat} (h:Lim l) (j n:Nat) (hl:j+n≤l.length):nv (win l j n)<18446744073709551616^n:=by
 have:=l9 ((h.drop j).take n)
 rw [List.length_take,List.length_drop,Nat.min_eq_left qN] at this
 exact this
theorem kn_of {l vl:List Nat} {j m:Nat} (hl:Lim l) (hv:Lim vl) (hj:j+(m+3)≤l.length) (hn:vl.length=m+2) (ht:9223372036854775808≤vl.getD (m+1) 0)
  (hlt:nv (win l j (m+3))<18446744073709551616*nv vl) :
  KN 18446744073709551616 (18446744073709551616^m) (nv (win l j m)) (l.getD (j+m) 0) (l.getD (j+(m+1)) 0) (l.getD (j+(m+2)) 0) (nv (vl.take m)) (vl.getD m 0) (vl.getD (m+1) 0) (nv (win l j (m+3))) (nv vl):=by
 refine ⟨?_,?_,win_lt hl j m qN,?_,hl.get _,hl.get _,hv.get _,hv.get _,by omega,hlt⟩
 ·rw [kT,kT,kT]
  simp only [Nat.pow_succ]
  generalize 18446744073709551616^m=P
  rw [Nat.mul_add,Nat.mul_add,Nat.mul_add,Nat.mul_assoc,Nat.mul_assoc,Nat.mul_assoc]
  omega
 ·have:nv vl=nv (vl.take (m+2)):=by rw [List.take_of_length_le qN]
  rw [this,cV,cV,Nat.pow_succ]
  generalize 18446744073709551616^m=P
  rw [Nat.mul_add,Nat.mul_assoc]
  omega
 ·have:=l9 (hv.take m)
  rwa [List.length_take,Nat.min_eq_left qN] at this
theorem give_step {A W V U T g b:Nat} (h:A+T*b=W+V) (h':W+(g*V+V)=U+T) (hb:b≤1):A+g*V=U+T*(1 - b):=by
 obtain rfl | rfl:b=0∨b=1:=by omega
 ·rw [Nat.mul_zero] at h; rw [Nat.sub_zero,Nat.mul_one]; omega
 ·rw [Nat.mul_one] at h; rw [Nat.sub_self,Nat.mul_zero]; omega
theorem top_none {W L Q t:Nat} (h:W=L+Q*t) (hw:W<Q):t=0:=by
 rcases Nat.eq_zero_or_pos t with h0 | h0
 ·exact h0
 ·have:=Nat.le_mul_of_pos_right Q h0
  omega
theorem top_full {W L Q B t:Nat} (h:W=L+Q*t) (hl:L<Q) (hw:Q*B<W+Q):B≤t+1:=by
 refine Nat.le_of_not_lt fun hlt=>?_
 have:=Nat.mul_le_mul_left Q (Nat.succ_le_of_lt hlt)
 rw [Nat.succ_eq_add_one,Nat.mul_add,Nat.mul_add,Nat.mul_one] at this
 omega
theorem digit_tail {K:cE} {os:List Own} {fs:List bA} (pos:Nat) {u v:Value} {l0 vl:List Nat} {j m:Nat} (h:bQ os pos=some (j8 u l0)) (hs:eQ u) (hv:(v,U vl)∈fs) (hn:vl.length=m+2)
  (hl0:Lim l0) (hvl:Lim vl) (hj:j+(m+3)≤l0.length) (ll:l0.length≤1099511627777) (htop:9223372036854775808≤vl.getD (m+1) 0)
  (hlt:nv (win l0 j (m+3))<18446744073709551616*nv vl)
  (k:∀ l' g,l'.length=l0.length→Lim l'→(∀ x,x<j∨j+(m+2)<x→l'.getD x 0=l0.getD x 0)→g<18446744073709551616→nv (win l' j (m+3))+g*nv vl=nv (win l0 j (m+3)) →
   nv (win l' j (m+3))<nv vl→K (.int .u64 (g:Int)) (setOwn os pos (j8 u l')) fs)
  (g:Nat) (hB:g<18446744073709551616) (hU:nv (win l0 j (m+3))<(g+1)*nv vl) (hO:g*nv vl<nv (win l0 j (m+3))+2*nv vl) :
  VC Tryz.prog Tryz.f177.ntmps (dropC 4 (bodyOf Tryz.f177)) [(0,wsl u j (m+3)),(1,v),(5,.int .i64 (vl.length:Nat)),(6,.int .u64 (g:Nat))] os fs (retQ Tryz.prog Tryz.f177 K):=by
 have hVlt:nv vl<18446744073709551616^(m+2):=by rw [← hn]; exact l9 hvl
 refine takes_call pos h hs (by first | exact hv | exact .tail _ hv | exact .tail _ (.tail _ hv) | exact .tail _ (.tail _ (.tail _ hv)) | exact .tail _ (.tail _ (.tail _ (.tail _ hv)))) hn hl0 hvl hj ll (t:=g) hB ?_
 intro l1 b e1 e2 e3 e4 e5
 replace e5:nv (win l1 j (m+3))+g*nv vl=nv (win l0 j (m+3))+18446744073709551616^(m+3)*b:=e5
 obtain rfl | rfl:b=0∨b=1:=by omega
 ·rw [show decide ((0:Nat)≠0)=false from rfl]
  rw [Nat.mul_zero,Nat.add_zero] at e5
  have hlast:nv (win l1 j (m+3))<nv vl:=by rw [Nat.add_mul,Nat.one_mul] at hU; omega
  exact fin (k l1 g e1 e2 e3 hB e5 hlast) (aD (fun F hF=>by first | exact hF | exact .tail _ hF | exact .tail _ (.tail _ hF) | exact .tail _ (.tail _ (.tail _ hF)) | exact .tail _ (.tail _ (.tail _ (.tail _ hF)))))
 ·rw [show decide ((1:Nat)≠0)=true from rfl]
  rw [Nat.mul_one] at e5
  have hwl:=win_lt e2 j (m+3) qN
  have hg0:g≠0:=fun e=>by rw [e,Nat.zero_mul,Nat.add_zero] at e5; omega
  obtain ⟨g',hg'⟩:∃ g',g'+1=g:=⟨g - 1,by omega⟩
  rw [← hg',Nat.add_mul,Nat.one_mul] at e5
  have hU0:nv (win l0 j (m+3))<(g'+1)*nv vl:=by rw [Nat.add_mul,Nat.one_mul]; omega
  have hO':g'*nv vl<nv (win l0 j (m+3))+nv vl:=by rw [← hg',Nat.add_mul,Nat.one_mul] at hO; omega
  refine dQ rfl ((g':Nat):Int) (by rw [show (((g:Nat):Int) - 1)=((g':Nat):Int) from by omega]; exact bT ⟨by omega,by omega⟩) ?_
  refine gives_call (n:=m+2) pos (k8 h) hs (by first | exact hv | exact .tail _ hv | exact .tail _ (.tail _ hv) | exact .tail _ (.tail _ (.tail _ hv)) | exact .tail _ (.tail _ (.tail _ (.tail _ hv)))) hn e2 hvl qN qN ?_
  intro l2 b2 c1 c2 c3 c4 c5
  replace c5:nv (win l2 j (m+3))+18446744073709551616^(m+3)*b2=nv (win l1 j (m+3))+nv vl:=c5
  refine bD (X:=Nat×List Nat×Nat) (fun x=>([(0,wsl u j (m+3)),(1,v),(5,.int .i64 (vl.length:Nat)),(6,.int .u64 (x.1:Nat))],setOwn os pos (j8 u x.2.1),fs))
   (fun x=>x.1<18446744073709551616∧x.2.1.length=l0.length∧Lim x.2.1∧x.2.2≤1∧(∀ y,y<j∨j+(m+2)<y→x.2.1.getD y 0=l0.getD y 0) ∧
    nv (win x.2.1 j (m+3))+x.1*nv vl=nv (win l0 j (m+3))+18446744073709551616^(m+3)*x.2.2∧nv (win l0 j (m+3))<(x.1+1)*nv vl∧x.1*nv vl<nv (win l0 j (m+3))+nv vl) (fun x=>x.1) rfl ?_ ?_
  ·refine bB (g',l2,1 - b2) ⟨by simp only; omega,by simp only; omega,c2,by simp only; omega,fun y hy=>by simp only; rw [c3 y qN,e3 y qN],?_,hU0,hO'⟩ trivial qF (by rw [set_set]; exact (aD (fun F hF=>by first | exact hF | exact .tail _ hF | exact .tail _ (.tail _ hF) | exact .tail _ (.tail _ (.tail _ hF)) | exact .tail _ (.tail _ (.tail _ (.tail _ hF))))))
   exact give_step c5 e5 c4
  ·rintro ⟨g,l,d⟩ ⟨d1,d2,d3,d4,d5,d6,d7,d8⟩
   simp only at d1 d2 d3 d4 d5 d6 d7 d8 ⊢
   have hn':bQ (setOwn os pos (j8 u l)) pos=some (j8 u l):=k8 h
   have htp:=d3.get (j+(m+2))
   have hsp:nv (win l j (m+3))=nv (win l j (m+2))+18446744073709551616^(m+2)*l.getD (j+(m+2)) 0:=kT l j (m+2)
   have hwn:=win_lt d3 j (m+2) qN
   have hwl:=win_lt d3 j (m+3) qN
   have hpp:18446744073709551616^(m+3)=18446744073709551616^(m+2)*18446744073709551616:=Nat.pow_succ ..
   refine iN pos hn' hs (m+2) qN qN qN ?_
   refine kW pos hn' (j+(m+2)) qN ?_
   obtain rfl | rfl:d=0∨d=1:=by omega
   ·rw [Nat.mul_zero,Nat.add_zero] at d6
    rw [Nat.add_mul,Nat.one_mul] at d7
    have hlast:nv (win l j (m+3))<nv vl:=by omega
    have hz:l.getD (j+(m+2)) 0=0:=by
     exact top_none hsp (Nat.lt_trans hlast hVlt)
    refine aL rfl qN ?_
    exact fin (k l g d2 d3 d5 d1 d6 hlast) (aD (fun F hF=>by first | exact hF | exact .tail _ hF | exact .tail _ (.tail _ hF) | exact .tail _ (.tail _ (.tail _ hF)) | exact .tail _ (.tail _ (.tail _ (.tail _ hF)))))
   ·rw [Nat.mul_one] at d6
    have hz:l.getD (j+(m+2)) 0=18446744073709551615:=by
     have hfull:18446744073709551616^(m+2)*18446744073709551616<nv (win l j (m+3))+18446744073709551616^(m+2):=by rw [← hpp]; omega
     have:=top_full hsp hwn hfull
     omega
    refine bG rfl qN ?_
    refine iN pos hn' hs (m+2) qN qN qN ?_
    refine kW pos hn' (j+(m+2)) qN ?_
    refine bG rfl qN ?_
    have hg0:g≠0:=fun e=>by rw [e,Nat.zero_mul,Nat.add_zero] at d6; omega
    obtain ⟨g'',rfl⟩:∃ g'',g=g''+1:=⟨g - 1,by omega⟩
    refine dQ rfl ((g'':Nat):Int) (by rw [show (((g''+1:Nat):Int) - 1)=((g'':Nat):Int) from by omega]; exact bT ⟨by omega,by omega⟩) ?_
    refine gives_call (n:=m+2) pos hn' hs (by first | exact hv | exact .tail _ hv | exact .tail _ (.tail _ hv) | exact .tail _ (.tail _ (.tail _ hv)) | exact .tail _ (.tail _ (.tail _ (.tail _ hv)))) hn d3 hvl qN qN ?_
    intro l3 b3 c1 c2 c3 c4 c5
    replace c5:nv (win l3 j (m+3))+18446744073709551616^(m+3)*b3=nv (win l j (m+3))+nv vl:=c5
    rw [Nat.add_mul,Nat.one_mul] at d6 d8
    have hU1:nv (win l0 j (m+3))<(g''+1)*nv vl:=by rw [Nat.add_mul,Nat.one_mul]; omega
    have hw3:=win_lt c2 j (m+3) qN
    refine bB (g'',l3,1 - b3) ⟨by simp only; omega,by simp only; omega,c2,by simp only; omega,fun y hy=>by simp only; rw [c3 y qN,d5 y qN],?_,hU1,by simp only; omega⟩ (by simp only; omega) qF (by rw [set_set]; exact (aD (fun F hF=>by first | exact hF | exact .tail _ hF | exact .tail _ (.tail _ hF) | exact .tail _ (.tail _ (.tail _ hF)) | exact .tail _ (.tail _ (.tail _ (.tail _ hF))))))
    exact give_step c5 d6 c4
theorem digit_guess {K:cE} {os:List Own} {fs:List bA} (pos:Nat) {u v:Value} {l0 vl:List Nat} {j m:Nat} (h:bQ os pos=some (j8 u l0)) (hs:eQ u) (hv:(v,U vl)∈fs) (hn:vl.length=m+2)
  (hl0:Lim l0) (hvl:Lim vl) (hj:j+(m+3)≤l0.length) (ll:l0.length≤1099511627777) (htop:9223372036854775808≤vl.getD (m+1) 0)
  (hlt:nv (win l0 j (m+3))<18446744073709551616*nv vl) :
  VC Tryz.prog Tryz.f177.ntmps (takeC 4 (bodyOf Tryz.f177)) (argF 0 [wsl u j (m+3),v]) os fs (cutN (fun g:Nat=>([(0,wsl u j (m+3)),(1,v),(5,.int .i64 (vl.length:Nat)),(6,.int .u64 (g:Nat))],os,fs))
   (fun g=>g<18446744073709551616∧nv (win l0 j (m+3))<(g+1)*nv vl∧g*nv vl<nv (win l0 j (m+3))+2*nv vl) (retQ Tryz.prog Tryz.f177 K)):=by
 have hkn:=kn_of hl0 hvl hj hn htop hlt
 have hu2:=hl0.get (j+(m+2))
 have hu1:=hl0.get (j+(m+1))
 have hu0:=hl0.get (j+m)
 have hv1:=hvl.get (m+1)
 have hv2:=hvl.get m
 have hVlt:nv vl<18446744073709551616^(m+2):=by rw [← hn]; exact l9 hvl
 have hVpos:0<nv vl:=by
  have:=hkn.vlo
  have:0<18446744073709551616^m*(18446744073709551616*vl.getD (m+1) 0):=Nat.mul_pos (Nat.pow_pos qE) qN
  omega
 refine aS hv fun _=>?_
 refine bC [0,1,2,3,4,5,6,7,8,9] [0,1,2,3,4,5,6,7,8,9] qK qK ?_
 refine iN pos h hs (m+2) qN qN qN ?_
 refine kW pos h (j+(m+2)) qN ?_
 refine ar rfl qI ?_
 refine aZ (by first | exact hv | exact .tail _ hv | exact .tail _ (.tail _ hv) | exact .tail _ (.tail _ (.tail _ hv)) | exact .tail _ (.tail _ (.tail _ (.tail _ hv)))) (m+1) qN qN fun p=>?_
 refine bF qM ?_
 refine aO _ rfl (fun hc=>?_) (fun hc=>?_)
 ·refine bC [0,1,2,3,4,5,6,7,8,9,10,11,12,13,14,15,16,17,18,19] [0,1,2,3,4,5,6,7,8,9,10,11,12,13,14,15,16,18,17,19] qK qK ?_
  refine iN pos h hs (m+2) qN qN qN ?_
  refine kW pos h (j+(m+2)) qN ?_
  refine ar rfl qI ?_
  refine iN pos h hs (m+1) qN qN qN ?_
  refine kW pos h (j+(m+1)) qN ?_
  refine ar rfl qI ?_
  refine aZ (by first | exact hv | exact .tail _ hv | exact .tail _ (.tail _ hv) | exact .tail _ (.tail _ (.tail _ hv)) | exact .tail _ (.tail _ (.tail _ (.tail _ hv)))) (m+1) qN qN fun p=>?_
  refine bF qM ?_
  refine cH (vD (l0.getD (j+(m+2)) 0) (l0.getD (j+(m+1)) 0) (vl.getD (m+1) 0) qN hu1 hv1) ?_
  have hf:=hkn.first qN
  have hd:=Nat.div_add_mod (l0.getD (j+(m+2)) 0*18446744073709551616+l0.getD (j+(m+1)) 0) (vl.getD (m+1) 0)
  have hm:=Nat.mod_lt (l0.getD (j+(m+2)) 0*18446744073709551616+l0.getD (j+(m+1)) 0) (show 0<vl.getD (m+1) 0 by omega)
  refine loop_cut (Y:=Nat) 0 (fun g=>([(0,wsl u j (m+3)),(1,v),(5,.int .i64 (vl.length:Nat)),(7,.int .u64 (g:Nat))],os,fs))
   (fun g=>g<18446744073709551616∧nv (win l0 j (m+3))<(g+1)*nv vl∧g*nv vl<nv (win l0 j (m+3))+2*nv vl) ?_ ?_
  ·refine bD (X:=Nat×Nat) (fun x=>([(0,wsl u j (m+3)),(1,v),(5,.int .i64 (vl.length:Nat)),(7,.int .u64 (x.1:Nat)),(8,.int .u64 (x.2:Nat))],os,fs))
    (fun x=>x.1<18446744073709551616∧nv (win l0 j (m+3))<(x.1+1)*nv vl∧x.1*nv vl<nv (win l0 j (m+3))+2*nv vl∧x.2<18446744073709551616 ∧
     x.1*vl.getD (m+1) 0+x.2=l0.getD (j+(m+2)) 0*18446744073709551616+l0.getD (j+(m+1)) 0) (fun x=>x.1) rfl ?_ ?_
   ·exact bB ((l0.getD (j+(m+2)) 0*18446744073709551616+l0.getD (j+(m+1)) 0)/vl.getD (m+1) 0,(l0.getD (j+(m+2)) 0*18446744073709551616+l0.getD (j+(m+1)) 0)%vl.getD (m+1) 0) ⟨hf.2.2,hf.1,hf.2.1,by simp only; omega,by simp only; rw [Nat.mul_comm]; exact hd⟩ trivial qF (aD (fun F hF=>by first | exact hF | exact .tail _ hF | exact .tail _ (.tail _ hF) | exact .tail _ (.tail _ (.tail _ hF)) | exact .tail _ (.tail _ (.tail _ (.tail _ hF)))))
   ·clear hf hd hm
    rintro ⟨g,r⟩ ⟨d1,d2,d3,d4,d5⟩
    simp only at d1 d2 d3 d4 d5 ⊢
    refine ar rfl qI ?_
    refine aZ (by first | exact hv | exact .tail _ hv | exact .tail _ (.tail _ hv) | exact .tail _ (.tail _ (.tail _ hv)) | exact .tail _ (.tail _ (.tail _ (.tail _ hv)))) m qN qN fun p=>?_
    refine bF qM ?_
    refine cH (o4 g (vl.getD m 0) d1 hv2) ?_
    have hdm:=Nat.div_add_mod (g*vl.getD m 0) 18446744073709551616
    have hml:=Nat.mod_lt (g*vl.getD m 0) (show 0<18446744073709551616 by decide)
    have hgo:∀ {q:Nat},g*vl.getD m 0=q→r*18446744073709551616+l0.getD (j+m) 0<q→nv (win l0 j (m+3))<g*nv vl:=fun he hq=>hkn.high d5 (by rw [he]; exact hq)
    obtain ⟨hi,hhi⟩:∃ hi,hi=g*vl.getD m 0/18446744073709551616:=⟨_,rfl⟩
    obtain ⟨lo,hlo⟩:∃ lo,lo=g*vl.getD m 0%18446744073709551616:=⟨_,rfl⟩
    rw [← hhi,← hlo] at hdm
    rw [← hlo] at hml
    rw [← hhi,← hlo]
    clear hhi hlo
    refine aO _ rfl (fun ha=>?_) (fun ha=>?_)
    ·exact bB g ⟨d1,d2,d3⟩ trivial qF (aD (fun F hF=>by first | exact hF | exact .tail _ hF | exact .tail _ (.tail _ hF) | exact .tail _ (.tail _ (.tail _ hF)) | exact .tail _ (.tail _ (.tail _ (.tail _ hF)))))
    ·refine aO _ rfl (fun hb=>?_) (fun hb=>?_)
     ·refine ar rfl qI ?_
      refine iN pos h hs m qN qN qN ?_
      refine kW pos h (j+m) qN ?_
      refine aO _ rfl (fun hd=>?_) (fun hd=>?_)
      ·exact bB g ⟨d1,d2,d3⟩ trivial qF (aD (fun F hF=>by first | exact hF | exact .tail _ hF | exact .tail _ (.tail _ hF) | exact .tail _ (.tail _ (.tail _ hF)) | exact .tail _ (.tail _ (.tail _ (.tail _ hF)))))
      ·
       have hU2:=hgo hdm.symm qN
       have hg0:g≠0:=fun e=>by rw [e,Nat.zero_mul] at hU2; omega
       obtain ⟨g',rfl⟩:∃ g',g=g'+1:=⟨g - 1,by omega⟩
       refine dQ rfl ((g':Nat):Int) (by rw [show (((g'+1:Nat):Int) - 1)=((g':Nat):Int) from by omega]; exact bT ⟨by omega,by omega⟩) ?_
       refine ar rfl qI ?_
       refine aZ (by first | exact hv | exact .tail _ hv | exact .tail _ (.tail _ hv) | exact .tail _ (.tail _ (.tail _ hv)) | exact .tail _ (.tail _ (.tail _ (.tail _ hv)))) (m+1) qN qN fun p=>?_
       refine bF qM ?_
       have hO2:g'*nv vl<nv (win l0 j (m+3))+2*nv vl:=by rw [Nat.add_mul,Nat.one_mul] at d3; omega
       rw [Nat.add_mul,Nat.one_mul] at d5
       refine dQ rfl (((r+vl.getD (m+1) 0)%18446744073709551616:Nat):Int) (by rw [dA]; omega) ?_
       refine aO _ rfl (fun he=>?_) (fun he=>?_)
       ·exact bB g' ⟨by omega,hU2,hO2⟩ trivial qF (aD (fun F hF=>by first | exact hF | exact .tail _ hF | exact .tail _ (.tail _ hF) | exact .tail _ (.tail _ (.tail _ hF)) | exact .tail _ (.tail _ (.tail _ (.tail _ hF)))))
       ·exact bB (g',(r+vl.getD (m+1) 0)%18446744073709551616) ⟨by simp only; omega,hU2,hO2,by simp only; omega,by simp only; omega⟩ (by simp only; omega) qF (aD (fun F hF=>by first | exact hF | exact .tail _ hF | exact .tail _ (.tail _ hF) | exact .tail _ (.tail _ (.tail _ hF)) | exact .tail _ (.tail _ (.tail _ (.tail _ hF)))))
     ·
      have hU2:=hgo hdm.symm qN
      have hg0:g≠0:=fun e=>by rw [e,Nat.zero_mul] at hU2; omega
      obtain ⟨g',rfl⟩:∃ g',g=g'+1:=⟨g - 1,by omega⟩
      refine dQ rfl ((g':Nat):Int) (by rw [show (((g'+1:Nat):Int) - 1)=((g':Nat):Int) from by omega]; exact bT ⟨by omega,by omega⟩) ?_
      refine ar rfl qI ?_
      refine aZ (by first | exact hv | exact .tail _ hv | exact .tail _ (.tail _ hv) | exact .tail _ (.tail _ (.tail _ hv)) | exact .tail _ (.tail _ (.tail _ (.tail _ hv)))) (m+1) qN qN fun p=>?_
      refine bF qM ?_
      have hO2:g'*nv vl<nv (win l0 j (m+3))+2*nv vl:=by rw [Nat.add_mul,Nat.one_mul] at d3; omega
      rw [Nat.add_mul,Nat.one_mul] at d5
      refine dQ rfl (((r+vl.getD (m+1) 0)%18446744073709551616:Nat):Int) (by rw [dA]; omega) ?_
      refine aO _ rfl (fun he=>?_) (fun he=>?_)
      ·exact bB g' ⟨by omega,hU2,hO2⟩ trivial qF (aD (fun F hF=>by first | exact hF | exact .tail _ hF | exact .tail _ (.tail _ hF) | exact .tail _ (.tail _ (.tail _ hF)) | exact .tail _ (.tail _ (.tail _ (.tail _ hF)))))
      ·exact bB (g',(r+vl.getD (m+1) 0)%18446744073709551616) ⟨by simp only; omega,hU2,hO2,by simp only; omega,by simp only; omega⟩ (by simp only; omega) qF (aD (fun F hF=>by first | exact hF | exact .tail _ hF | exact .tail _ (.tail _ hF) | exact .tail _ (.tail _ (.tail _ hF)) | exact .tail _ (.tail _ (.tail _ (.tail _ hF)))))
  ·rintro g ⟨hB,hU,hO⟩
   exact bB g ⟨hB,hU,hO⟩ trivial qF (aD (fun F hF=>by first | exact hF | exact .tail _ hF | exact .tail _ (.tail _ hF) | exact .tail _ (.tail _ (.tail _ hF)) | exact .tail _ (.tail _ (.tail _ (.tail _ hF)))))
 ·have hU:nv (win l0 j (m+3))<(18446744073709551615+1)*nv vl:=hlt
  have hO:=hkn.max qN
  have hB:18446744073709551615<18446744073709551616:=by decide
  exact bB 18446744073709551615 ⟨hB,hU,hO⟩ trivial qF (aD (fun F hF=>by first | exact hF | exact .tail _ hF | exact .tail _ (.tail _ hF) | exact .tail _ (.tail _ (.tail _ hF)) | exact .tail _ (.tail _ (.tail _ (.tail _ hF)))))
theorem digit_call {K:cE} {os:List Own} {fs:List bA} (pos:Nat) {u v:Value} {l0 vl:List Nat} {j m:Nat} (h:bQ os pos=some (j8 u l0)) (hs:eQ u) (hv:(v,U vl)∈fs) (hn:vl.length=m+2)
  (hl0:Lim l0) (hvl:Lim vl) (hj:j+(m+3)≤l0.length) (ll:l0.length≤1099511627777) (htop:9223372036854775808≤vl.getD (m+1) 0)
  (hlt:nv (win l0 j (m+3))<18446744073709551616*nv vl)
  (k:∀ l' g,l'.length=l0.length→Lim l'→(∀ x,x<j∨j+(m+2)<x→l'.getD x 0=l0.getD x 0)→g<18446744073709551616→nv (win l' j (m+3))+g*nv vl=nv (win l0 j (m+3)) →
   nv (win l' j (m+3))<nv vl→K (.int .u64 (g:Int)) (setOwn os pos (j8 u l')) fs):CallK Tryz.prog false (.func (.func 177) #[] #[]) [wsl u j (m+3),v] os fs K :=
 inline_cut 4 (fun g:Nat=>([(0,wsl u j (m+3)),(1,v),(5,.int .i64 (vl.length:Nat)),(6,.int .u64 (g:Nat))],os,fs)) (fun g=>g<18446744073709551616∧nv (win l0 j (m+3))<(g+1)*nv vl∧g*nv vl<nv (win l0 j (m+3))+2*nv vl) Tryz.func177 qK rfl qK (Nat.le_of_ble_eq_true rfl)
  (digit_guess pos h hs hv hn hl0 hvl hj ll htop hlt) (fun g hg=>digit_tail pos h hs hv hn hl0 hvl hj ll htop hlt k g hg.1 hg.2.1 hg.2.2)
theorem copy_rule {P:Program} {t ty e:TypeId} {size bytes:Nat} {a b:Value} {n m:Nat} {el el':Nat→Dat} {os:List Own} {fs:List bA} {K:cE} [ht:TSl P t e size] [he:TEl P e size bytes] (pos:Nat)
  (h:bQ os pos=some (bL a size n el)) (hs:eQ a) (hb:Knw os fs b (.sl size m el')) (hm:m≤n)
  (k:K (.int .i64 m) (setOwn os pos (bL a size n (fun i=>if i<m then el' i else el i))) fs):CopyK P [t,t] ty a b os fs K:=by
 refine ⟨fun G w hw=>?_⟩
 obtain ⟨ti,z,i1,rfl,i3,i4,i5,i6⟩:=he.info
 obtain ⟨ba,bc,news,rfl,n1,n2,n3,n4⟩:=pH (P:=P) (hb G w hw)
 have hmin:Nat.min m n=m:=Nat.min_eq_left hm
 rcases hw.own _ (bU h) 0 Nat.zero_lt_one with ⟨h1,h2⟩ | ⟨r,cap,h1,h2⟩ | ⟨r,h1,_⟩ | ⟨_,_,_,_,_,_,⟨r,_,_,h1,_⟩ | ⟨r,_,_,_,_,_,_,h1,_⟩⟩
 rotate_right
 ·obtain ⟨_,_,_,rfl⟩:=hs; simp [bL] at h1
 rotate_right
 ·obtain ⟨_,_,_,rfl⟩:=hs; simp [bL] at h1
 ·simp only [bL] at h1 h2
  subst h1 h2
  have hm0:m=0:=by omega
  subst hm0
  have hn:news=[]:=List.eq_nil_of_length_eq_zero (by simpa using n1)
  subst hn
  have hrun:(Builtin.copy_ [t,t].toArray ty #[.slice none 0 0,.slice ba 0 bc]).run P w=.ok (.int .i64 (0:Nat)) w:=by
   have:=n3 w fun _=>rfl
   simp [Builtin.copy_,run_underlying ht.und,sizeOf,typeInfo,i1,Builtin.lenOf,this,goInt]
  rw [gO hrun]
  exact ⟨_,fs,k,hw.step h rfl rfl rfl (Nat.le_refl _) (fun _ _ _=>rfl) (fun b ⟨x,_,hxb⟩=>by simp [bL,lR] at hxb) (fun i j b hi hj _ _=>by simp only [bL] at hi hj; omega) fun mono x hx=>.inl ⟨rfl,rfl⟩⟩
 ·simp only [bL] at h1 h2
  subst h1
  obtain ⟨b1,b2,b3,cur,t0,b4,b5,b6⟩:=h2
  have hfit:news.length≤cur.size:=by
   rw [n1,b5]
   exact Nat.mul_le_mul_right _ qN
  have hst:=eS (P:=P) r 0 t0 news 0 cur w b4 (by simpa using hfit) n2
  simp only [Nat.add_zero] at hst
  have hrun:(Builtin.copy_ [t,t].toArray ty #[.slice (some ⟨r,0,none⟩) n cap,.slice ba m bc]).run P w =
    .ok (.int .i64 (m:Nat)) (w.setRow r (cur.toList.take 0++news++cur.toList.drop (0+news.length)).toArray):=by
   have:=n3 w fun _=>rfl
   simp only [Builtin.copy_]
   simp [run_underlying ht.und,sizeOf,typeInfo,i1,Builtin.lenOf,hmin,this,goInt,hst]
  rw [gO hrun]
  refine ⟨_,fs,k,hw.step h rfl rfl rfl qP (fun q hq hno=>setRow_other w r q _ fun e=>hno ⟨0,Nat.zero_lt_one,by rw [e]; rfl⟩)
   (fun b ⟨x,hx,hxb⟩=>.inl ⟨0,Nat.zero_lt_one,hxb⟩) (fun i j b hi hj _ _=>by simp only [bL] at hi hj; omega) fun mono x hx=>?_⟩
  refine .inr (.inl ⟨r,cap,rfl,b1,b2,b3,_,t0,b4.set (by simp only [List.size_toArray,List.length_append,List.length_take,List.length_drop,Array.length_toList]; omega),?_,fun y hy=>?_⟩)
  ·simp only [List.size_toArray,List.length_append,List.length_take,List.length_drop,Array.length_toList,bL]
   omega
  ·simp only [bL] at hy ⊢
   by_cases hym:y<m
   ·obtain ⟨cs,c1,c2,c3⟩:=n4 y hym
    refine ⟨cs,by simp only [hym,if_true]; exact mono _ _ c1,c2,fun j hj=>?_⟩
    have hlt:y*ti.size+j<m*ti.size:=by
     have:(y+1)*ti.size≤m*ti.size:=Nat.mul_le_mul_right _ hym
     rw [Nat.add_mul] at this
     omega
    rw [List.getElem?_toArray,List.append_assoc,List.take_zero,List.nil_append,List.getElem?_append_left qN,c3 j hj]
   ·obtain ⟨cs,c1,c2,c3⟩:=b6 y hy
    refine ⟨cs,by simp only [hym,if_false]; exact mono _ _ c1,c2,fun j hj=>?_⟩
    have hge:m*ti.size≤y*ti.size:=Nat.mul_le_mul_right _ qN
    rw [List.getElem?_toArray,List.append_assoc,List.take_zero,List.nil_append,List.getElem?_append_right qN,List.getElem?_drop,← c3 j hj,Array.getElem?_toList]
    congr 1
    omega
 ·obtain ⟨q1,q2,q3,rfl⟩:=hs
  simp [bL] at h1
theorem copy_U {P:Program} {t ty e:TypeId} {bytes:Nat} {a b:Value} {l m:List Nat} {os:List Own} {fs:List bA} {K:cE} [ht:TSl P t e 1] [he:TEl P e 1 bytes] (pos:Nat)
  (h:bQ os pos=some (j8 a l)) (hs:eQ a) (hb:Knw os fs b (U m)) (hm:m.length≤l.length)
  (k:K (.int .i64 m.length) (setOwn os pos (j8 a (m++l.drop m.length))) fs):CopyK P [t,t] ty a b os fs K:=by
 have h1:=copy_rule (P:=P) (t:=t) (ty:=ty) (K:=fun u os' fs'=>∃ os'' fs'',Seals os' fs' os'' fs''∧K u os'' fs'') pos h hs hb hm
 refine ⟨Dyn.sealed (h1 ⟨_,_,?_,k⟩).out⟩
 have h2:=Seals.own_cong (os:=setOwn os pos (bL a 1 l.length (fun i=>if i<m.length then .one (.int .u64 (m.getD i 0:Nat)) else UE l i))) (fs:=fs) pos (n':=(m++l.drop m.length).length) (UE (m++l.drop m.length)) (k8 h) (by simp; omega) fun i hi=>by
  simp only [UE,gE]
  by_cases hil:i<m.length
  ·rw [if_pos hil,List.getElem?_append_left hil]
  ·rw [if_neg hil,List.getElem?_append_right qN,List.getElem?_drop,show m.length+(i - m.length)=i by omega]
 rw [set_set] at h2
 exact h2
theorem take_congr {l l':List Nat} {i:Nat} (hl:l'.length=l.length) (h:∀ x,x<i→l'.getD x 0=l.getD x 0):l'.take i=l.take i:=by
 refine List.ext_getElem (by simp [hl]) fun n h1 h2=>?_
 simp only [List.length_take] at h1 h2
 have:=h n qN
 simpa [gE,show n<l.length by omega,show n<l'.length by omega] using this
theorem drop_congr {l l':List Nat} {i:Nat} (hl:l'.length=l.length) (h:∀ x,i≤x→l'.getD x 0=l.getD x 0):l'.drop i=l.drop i:=by
 refine List.ext_getElem (by simp [hl]) fun n h1 h2=>?_
 simp only [List.length_drop] at h1 h2
 have:=h (i+n) qN
 simpa [gE,show i+n<l.length by omega,show i+n<l'.length by omega] using this
theorem rX (l:List Nat) (i:Nat) (hi:i≤l.length):nv l=nv (l.take i)+18446744073709551616^i*nv (l.drop i):=by
 have:=kE (l.take i) (l.drop i)
 rwa [List.take_append_drop,List.length_take,Nat.min_eq_left hi] at this
theorem mA (l:List Nat) (i n:Nat) (hi:i+n≤l.length):nv (l.drop i)=nv (win l i n)+18446744073709551616^n*nv (l.drop (i+n)):=by
 have:=rX (l.drop i) n (by simp; omega)
 rwa [List.drop_drop] at this
theorem gI (l:List Nat) (i:Nat) (hi:i<l.length):nv (l.drop i)=l.getD i 0+18446744073709551616*nv (l.drop (i+1)):=by
 rw [List.drop_eq_getElem_cons hi,nv]; simp [gE,hi]
theorem lims_len {n k:Nat} (h1:n<18446744073709551616^(k+1)) (h2:18446744073709551616^k≤n):(b9 n).length=k+1:=by
 have:=e8 h1
 have h3:=l9 (cK n)
 rw [dN] at h3
 refine Nat.le_antisymm this (Nat.le_of_not_lt fun h=>?_)
 have:=Nat.pow_le_pow_right (show 0<18446744073709551616 by decide) (show (b9 n).length≤k by omega)
 omega
theorem lims_get {n k:Nat} (h1:n<18446744073709551616^(k+1)) (h2:18446744073709551616^k≤n):(b9 n).getD k 0=n/18446744073709551616^k:=by
 have hl:=lims_len h1 h2
 have h:=rX (b9 n) k qN
 rw [gI _ k qN,List.drop_of_length_le qN,dN] at h
 have h3:=l9 ((cK n).take k)
 rw [List.length_take,Nat.min_eq_left qN] at h3
 generalize nv (List.take k (b9 n))=z at *
 rw [show nv []=0 from rfl,Nat.mul_zero,Nat.add_zero] at h
 generalize (b9 n).getD k 0=y at *
 have hp:0<18446744073709551616^k:=Nat.pow_pos qE
 generalize 18446744073709551616^k=Q at *
 rw [h,Nat.add_mul_div_left _ _ hp,Nat.div_eq_of_lt h3,Nat.zero_add]
theorem long_step {ul l' ql:List Nat} {i m g V X:Nat} (hlen:l'.length=ul.length) (hi:i+(m+3)≤ul.length) (hq:i<ql.length) (hul:Lim ul)
  (hsame:∀ x,x<i∨i+(m+2)<x→l'.getD x 0=ul.getD x 0) (h1:nv (win l' i (m+3))+g*V=nv (win ul i (m+3))) (h2:nv (win l' i (m+3))<V) (hV:V<18446744073709551616^(m+2))
  (h3:nv ul+nv (ql.drop (i+1))*18446744073709551616^(i+1)*V=X) (h4:nv (ul.drop (i+1))<V) :
  nv l'+nv ((ql.set i g).drop i)*18446744073709551616^i*V=X∧nv (l'.drop i)<V:=by
 have e0:nv (ul.drop (i+(m+3)))=0:=by
  have:=mA ul (i+1) (m+2) qN
  rw [show i+1+(m+2)=i+(m+3) by omega] at this
  generalize nv (ul.drop (i+(m+3)))=z at *
  rcases Nat.eq_zero_or_pos z with hz | hz
  ·exact hz
  ·have:=Nat.le_mul_of_pos_right (18446744073709551616^(m+2)) hz
   generalize 18446744073709551616^(m+2)=Q at *
   omega
 have e1:l'.drop (i+(m+3))=ul.drop (i+(m+3)):=drop_congr hlen fun x hx=>hsame x qN
 have e2:l'.take i=ul.take i:=take_congr hlen fun x hx=>hsame x qN
 have d1:=mA ul i (m+3) hi
 have d2:=mA l' i (m+3) qN
 rw [e1,e0,Nat.mul_zero,Nat.add_zero] at d2
 rw [e0,Nat.mul_zero,Nat.add_zero] at d1
 have s1:=rX ul i qN
 have s2:=rX l' i qN
 rw [e2] at s2
 rw [d1] at s1
 rw [d2] at s2
 refine ⟨?_,by rw [d2]; exact h2⟩
 have q1:nv ((ql.set i g).drop i)=g+18446744073709551616*nv (ql.drop (i+1)):=by
  rw [gI _ i (by simp; omega),List.drop_set_of_lt qN]; simp [gE,hq]
 rw [q1,← h3,s1,s2,← h1]
 generalize nv (win l' i (m+3))=W
 generalize nv (ql.drop (i+1))=Y
 generalize nv (List.take i ul)=T
 rw [Nat.pow_succ]
 generalize 18446744073709551616^i=Q
 have a1:(g+18446744073709551616*Y)*Q*V=Q*(g*V)+Y*(Q*18446744073709551616)*V:=by
  rw [Nat.add_mul,Nat.add_mul,Nat.mul_right_comm g,Nat.mul_comm (g*V),Nat.mul_comm 18446744073709551616 Y,Nat.mul_assoc Y,Nat.mul_comm 18446744073709551616 Q]
 rw [a1,Nat.mul_add]
 omega
theorem win_drop_lt {l:List Nat} {i m V:Nat} (hl:Lim l) (hi:i+(m+3)≤l.length) (h:nv (l.drop (i+1))<V):nv (win l i (m+3))<18446744073709551616*V:=by
 have d1:=mA l i (m+3) hi
 have d2:=gI l i qN
 have:=hl.get i
 generalize 18446744073709551616^(m+3)*nv (l.drop (i+(m+3)))=Z at *
 omega
theorem far_nat {s:Nat} (h:s≤64):far (s:Int)=s:=by unfold far; omega
theorem shifted {b:List Nat} {m k:Nat} (hb:Lim b) (hn:b.length=m+2) (h:IsLen (b.getD (m+1) 0) k) (h0:b.getD (m+1) 0≠0) :
  nv b*2^(64 - k)<18446744073709551616^(m+2)∧9223372036854775808*18446744073709551616^(m+1)≤nv b*2^(64 - k):=by
 obtain ⟨t1,t2⟩:=norm_top h h0
 have hk:=h.2.2
 have hlt:=h.1
 have hs:=rX b (m+1) qN
 rw [gI _ _ qN,List.drop_of_length_le qN,show nv []=0 from rfl,Nat.mul_zero] at hs
 simp only [Nat.add_zero] at hs
 have h3:=l9 (hb.take (m+1))
 rw [List.length_take,Nat.min_eq_left qN] at h3
 generalize b.getD (m+1) 0=t at *
 generalize nv (b.take (m+1))=z at *
 have hp:(t+1)*2^(64 - k)≤18446744073709551616:=by
  have:=Nat.mul_le_mul_right (2^(64 - k)) (Nat.succ_le_of_lt hlt)
  rwa [← Nat.pow_add,show k+(64 - k)=64 by omega] at this
 have hpp:18446744073709551616^(m+2)=18446744073709551616^(m+1)*18446744073709551616:=Nat.pow_succ ..
 have hsp:0<2^(64 - k):=Nat.pow_pos qE
 rw [hpp,hs]
 generalize 18446744073709551616^(m+1)=Q at *
 generalize 2^(64 - k)=S at *
 constructor
 ·have a:(z+Q*t)*S<(Q*(t+1))*S:=Nat.mul_lt_mul_of_pos_right (by rw [Nat.mul_add]; omega) hsp
  have b:Q*(t+1)*S≤Q*18446744073709551616:=by rw [Nat.mul_assoc]; exact Nat.mul_le_mul_left _ hp
  omega
 ·have a:9223372036854775808*Q≤Q*(t*S):=by rw [Nat.mul_comm]; exact Nat.mul_le_mul_left _ t2
  have b:Q*(t*S)≤(z+Q*t)*S:=by rw [← Nat.mul_assoc]; exact Nat.mul_le_mul_right _ qN
  omega
theorem long_meets (va vb:Value) (a b:List Nat) (ha:Lim a) (hb:Lim b) (m:Nat) (hn:b.length=m+2) (h0:b.getD (m+1) 0≠0) (hab:b.length≤a.length) (la:a.length≤274877906944) :
  aY Tryz.prog 170 [va,vb] [(va,U a),(vb,U b)] (fun r os fs=>os=[]∧∃ q s,r=.tuple #[q,s,.bool true]∧fs=[(q,U (b9 (nv a/nv b))),(s,U (b9 (nv a%nv b)))]):=by
 refine mV Tryz.func170 ?_
 have hbt:=hb.get (m+1)
 refine aS qM fun _=>?_
 refine ar rfl qI ?_
 refine aZ qM (m+1) qN qN fun p=>?_
 refine bF qM ?_
 refine cF (lz64_meets (b.getD (m+1) 0) hbt) ?_
 rintro _ _ _ ⟨rfl,rfl,k,rfl,hk⟩
 obtain ⟨v1,v2⟩:=shifted hb hn hk h0
 have hs64:64 - k≤64:=by omega
 have hS:0<2^(64 - k):=Nat.pow_pos qE
 have hS64:2^(64 - k)≤18446744073709551616:=Nat.pow_le_pow_right (n:=2) qE hs64
 have halt:=l9 ha
 have hpm:18446744073709551616^(m+1)≤nv b*2^(64 - k):=by omega
 have hvlen:=lims_len v1 hpm
 have hvtop:9223372036854775808≤(b9 (nv b*2^(64 - k))).getD (m+1) 0:=by
  rw [lims_get v1 hpm,Nat.le_div_iff_mul_le (Nat.pow_pos qE)]; exact v2
 have hbge:18446744073709551616^(m+1)≤nv b:=by
  have hs:=rX b (m+1) qN
  rw [gI _ _ qN] at hs
  have:=Nat.le_mul_of_pos_right (18446744073709551616^(m+1)) (show 0<b.getD (m+1) 0+18446744073709551616*nv (b.drop (m+1+1)) by omega)
  omega
 have hX:nv a*2^(64 - k)<18446744073709551616^(a.length+1):=by
  rw [Nat.pow_succ]
  exact Nat.lt_of_lt_of_le (Nat.mul_lt_mul_of_pos_right halt hS) (Nat.mul_le_mul_left _ hS64)
 have hXl:=e8 hX
 obtain ⟨c,hc⟩:∃ c,c+(m+1)=a.length:=⟨a.length - (m+1),by omega⟩
 have hXc:nv a*2^(64 - k)<18446744073709551616^c*(nv b*2^(64 - k)):=by
  rw [← Nat.mul_assoc]
  refine Nat.mul_lt_mul_of_pos_right (Nat.lt_of_lt_of_le halt ?_) hS
  rw [← hc,Nat.pow_add]
  exact Nat.mul_le_mul_left _ hbge
 have hfin1:nv a*2^(64 - k)/(nv b*2^(64 - k))=nv a/nv b:=Nat.mul_div_mul_right _ _ hS
 have hfin2:nv a*2^(64 - k)%(nv b*2^(64 - k))=nv a%nv b*2^(64 - k):=Nat.mul_mod_mul_right _ _ _
 generalize 64 - k=s at *
 refine cG (pJ vb b (s:Int) hb qN) fun v=>?_
 refine aS qM fun _=>?_
 refine ar rfl qI ?_
 refine rY (a.length+1) qN qN qN qN fun vu hvu=>?_
 refine cG (pJ va a (s:Int) ha qN) fun vx=>?_
 rw [far_nat hs64]
 refine copy_U 0 rfl hvu (cI qM) (by simp; omega) ?_
 obtain ⟨ul,hul⟩:∃ ul,ul=b9 (nv a*2^s)++(List.replicate (a.length+1) 0).drop (b9 (nv a*2^s)).length:=⟨_,rfl⟩
 have hull:ul.length=a.length+1:=by rw [hul]; simp; omega
 have hulv:nv ul=nv a*2^s:=by
  rw [hul,kE,dN,List.drop_replicate,nJ,Nat.mul_zero,Nat.add_zero]
 have hulL:Lim ul:=by rw [hul]; exact (cK _).append ((Lim.replicate _).drop _)
 rw [← hul]
 clear hul
 have hVL:=cK (nv b*2^s)
 have hVn:=dN (nv b*2^s)
 generalize b9 (nv b*2^s)=vl at hvlen hvtop hVL hVn ⊢
 have hVpos:0<nv b*2^s:=Nat.lt_of_lt_of_le (Nat.pow_pos qE) hpm
 rw [← hVn] at v1 hXc hfin1 hfin2 hVpos
 refine aS qM fun _=>?_
 refine len_U 0 rfl hvu fun _=>?_
 refine ar rfl qI ?_
 refine rY c qN qN qN qN fun vq hvq=>?_
 refine len_U 0 rfl hvq fun _=>?_
 rw [List.length_replicate]
 refine ar rfl qI ?_
 refine bD (X:=Nat×List Nat×List Nat) (fun x=>([(7,.int .i64 (s:Nat)),(8,v),(9,vu),(10,.int .i64 (vl.length:Nat)),(11,vq),(12,.int .i64 ((x.1:Int) - 1))],[j8 vq x.2.2,j8 vu x.2.1],[(v,U vl)]))
  (fun x=>x.1≤c∧x.2.1.length=a.length+1∧Lim x.2.1∧x.2.2.length=c∧Lim x.2.2∧nv x.2.1+nv (x.2.2.drop x.1)*18446744073709551616^x.1*nv vl=nv a*2^s∧nv (x.2.1.drop x.1)<nv vl) (fun x=>x.1) rfl ?_ ?_
 ·refine bB (c,ul,List.replicate c 0) ⟨Nat.le_refl _,hull,hulL,by simp,Lim.replicate _,?_,?_⟩ trivial qF (aD qS)
  ·simp only
   rw [List.drop_of_length_le qP,show nv []=0 from rfl,Nat.zero_mul,Nat.zero_mul,Nat.add_zero]; exact hulv
  ·simp only
   have hs:=rX ul c qN
   rw [hulv] at hs
   rw [hs] at hXc
   refine Nat.lt_of_mul_lt_mul_left (a:=18446744073709551616^c) ?_
   generalize 18446744073709551616^c*nv vl=Z at *
   generalize 18446744073709551616^c*nv (ul.drop c)=Z' at *
   omega
 ·rintro ⟨k,ul,ql⟩ ⟨h1,h2,h3,h4,h5,h6,h7⟩
  simp only at h1 h2 h3 h4 h5 h6 h7 ⊢
  refine aO _ rfl (fun hc=>?_) (fun hc=>?_)
  ·obtain ⟨i,rfl⟩:∃ i,k=i+1:=⟨k - 1,by omega⟩
   refine ar rfl qI ?_
   refine ar rfl qI ?_
   refine ar rfl qI ?_
   refine ar rfl qI ?_
   refine win_rule 1 rfl hvu i (m+3) qN qN qN qN qN ?_
   refine digit_call 1 rfl hvu qM hvlen h3 hVL qN qN hvtop (win_drop_lt h3 qN h7) ?_
   intro l' g e1 e2 e3 e4 e5 e6
   have hst:=long_step e1 qN qN h3 e3 e5 e6 v1 h6 h7
   refine fV 0 rfl hvq i qN qN ?_
   refine fS 0 rfl _ rfl qN ?_
   refine ar rfl qI ?_
   exact bB (i,l',ql.set i g) ⟨by simp only; omega,by simp only; omega,e2,by simp [h4],h5.set _ e4,hst.1,hst.2⟩ (by simp only; omega) qF (aD qS)
  ·have hk0:k=0:=by omega
   subst hk0
   rw [List.drop_zero,Nat.pow_zero,Nat.mul_one] at h6
   rw [List.drop_zero] at h7
   have hdm:nv a/nv b=nv ql∧nv a%nv b*2^s=nv ul:=by
    rw [← hfin1,← hfin2,← h6,Nat.mul_comm]
    exact ⟨by rw [Nat.add_comm,Nat.mul_add_div hVpos,Nat.div_eq_of_lt h7,Nat.add_zero],by rw [Nat.add_mul_mod_self_left,Nat.mod_eq_of_lt h7]⟩
   refine bN (dI vq ql) (Seals.U 0 rfl hvq) qS ?_
   rintro q _ _ ⟨rfl,rfl⟩
   refine bN (shr_meets vu ul (s:Int) h3 qN) (Seals.U 0 rfl hvu) qS ?_
   rintro r _ _ ⟨rfl,rfl⟩
   refine fin ⟨rfl,q,r,rfl,rfl⟩ (Seals.cons ((cI qM).cast ?_) (Seals.cons ((cI qM).cast ?_) (bO _ _)))
   ·rw [d9 h5,hdm.1]
   ·rw [far_nat hs64,← hdm.2,Nat.mul_div_cancel _ hS]
theorem divmod_meets (va vb:Value) (a b:List Nat) (ha:Lim a) (hb:Lim b) (la:a.length≤274877906944) (lb:b.length≤274877906944) (h0:nv b≠0) :
  aY Tryz.prog 158 [va,vb] [(va,U a),(vb,U b)] (fun r os fs=>os=[]∧∃ q s,r=.tuple #[q,s,.bool true]∧fs=[(q,U (b9 (nv a/nv b))),(s,U (b9 (nv a%nv b)))]):=by
 refine mV Tryz.func158 ?_
 refine cG (dI va a) fun x=>?_
 refine cG (dI vb b) fun y=>?_
 have hxl:=m5 a
 have hyl:=m5 b
 rw [d9 ha] at hxl ⊢
 rw [d9 hb] at hyl ⊢
 have hyt:=lims_top h0
 have hxv:=dN (nv a)
 have hyv:=dN (nv b)
 have hxL:=cK (nv a)
 have hxc:b9 (nv (b9 (nv a)))=b9 (nv a):=by rw [dN]
 have hyL:=cK (nv b)
 generalize b9 (nv a)=xl at hxl hxv hxL hxc ⊢
 generalize b9 (nv b)=yl at hyl hyv hyL hyt ⊢
 obtain ⟨yr,yt,hyr,hyt0,hyt1⟩:=hyt
 have hylen:yl.length=yr.length+1:=by rw [hyr]; simp
 have hyget:yl.getD yr.length 0=yt:=by rw [hyr]; simp [gE]
 rw [← hxv,← hyv]
 rw [← hyv] at h0
 clear hxv hyv hyr ha hb
 refine aS qM fun _=>?_
 refine aL rfl qN ?_
 refine cH (qA x y xl yl hxL hyL) ?_
 refine aO _ rfl (fun hc=>?_) (fun hc=>?_)
 ·have hlt:nv xl<nv yl:=by unfold cmpN at hc; split at hc <;> (try split at hc) <;> omega
  refine cF (o7 x xl qN) ?_
  rintro r _ _ ⟨rfl,hr,rfl⟩
  refine fin ⟨rfl,.slice none 0 0,r,rfl,rfl⟩ (aM (Seals.U 0 rfl hr) (Seals.cons ?_ (Seals.cons ((cI qM).cast ?_) (bO _ _))))
  ·rw [Nat.div_eq_of_lt hlt,dU]; exact Knw.nil 1 _
  ·rw [Nat.mod_eq_of_lt hlt,hxc]
 ·have hge:nv yl≤nv xl:=by unfold cmpN at hc; split at hc <;> (try split at hc) <;> omega
  have hxlt:=l9 hxL
  have hlen:yl.length≤xl.length:=by
   have hs:=rX yl yr.length qN
   rw [gI _ _ qN,hyget] at hs
   have:=Nat.le_mul_of_pos_right (18446744073709551616^yr.length) (show 0<yt+18446744073709551616*nv (yl.drop (yr.length+1)) by omega)
   refine Nat.le_of_not_lt fun h=>?_
   have:=Nat.pow_le_pow_right (show 0<18446744073709551616 by decide) (show xl.length≤yr.length by omega)
   generalize 18446744073709551616^yr.length=Q1 at *
   generalize 18446744073709551616^xl.length=Q2 at *
   omega
  refine aS qM fun _=>?_
  refine aO _ rfl (fun h1=>?_) (fun h1=>?_)
  ·have hr0:yr.length=0:=by omega
   have hyv:nv yl=yt:=by
    have hs:=gI yl 0 qN
    rw [List.drop_zero,List.drop_of_length_le qN,show nv []=0 from rfl,Nat.mul_zero] at hs
    rw [hr0] at hyget
    rw [hs,hyget]; rfl
   refine aZ qM 0 rfl qN fun p=>?_
   refine bF qM ?_
   rw [hr0] at hyget
   rw [hyget]
   refine cF (short_meets x xl yt hxL qN hyt1 hyt0) ?_
   rintro _ _ _ ⟨rfl,q,r,rfl,rfl⟩
   rw [hyv]
   exact fin ⟨rfl,q,r,rfl,rfl⟩ (aD qS)
  ·obtain ⟨m,hm⟩:∃ m,yr.length=m+1:=⟨yr.length - 1,by omega⟩
   rw [hm] at hyget
   refine cF (long_meets x y xl yl hxL hyL m qN (by rw [hyget]; exact hyt0) hlen qN) ?_
   rintro _ _ _ ⟨rfl,q,r,rfl,rfl⟩
   exact fin ⟨rfl,q,r,rfl,rfl⟩ (aD qS)
def I (s:Bool) (l:List Nat):Dat:=.cat (.one (.bool s)) (U l)
def iv (s:Bool) (l:List Nat):Int:=if s then -(nv l:Int) else (nv l:Int)
def zd (x:Int):Dat:=I (decide (x<0)) (b9 x.natAbs)
theorem eN (s:Bool) (l:List Nat):gX Tryz.prog 32 (I s l):=(inferInstance:oL Tryz.prog 32 2)
instance tzI:iD Tryz.prog 32 (I false []):=(inferInstance:iD Tryz.prog 32 (.cat (.one (.bool false)) (.sl 1 0 fun i=>.one (.int .u64 ((([]:List Nat).getD i 0:Nat):Int)))))
theorem gD (l:List Nat):gX Tryz.prog 30 (U l):=(inferInstance:lG Tryz.prog 30)
theorem zd_of (s:Bool) (n:Nat):I (s&&decide (0<n)) (b9 n)=zd (if s then -(n:Int) else (n:Int)):=by
 unfold zd
 cases s with
 | false=>simp only [Bool.false_and,Bool.false_eq_true,if_false,Int.natAbs_natCast]; rw [decide_eq_false (show ¬ ((n:Int)<0) by omega)]
 | true =>
  simp only [Bool.true_and,if_true,Int.natAbs_neg,Int.natAbs_natCast]
  congr 1
  exact decide_eq_decide.2 qN
theorem made_meets (v:Value) (s:Bool) (l:List Nat) :
  aY Tryz.prog 128 [.bool s,v] [(v,U l)] (fun r os fs=>os=[]∧fs=[(r,I (s&&decide (0<l.length)) l)]):=by
 refine mV Tryz.func128 ?_
 refine aI (d:=.cat (.one (.bool false)) (.sl 1 0 fun _=>.one undef)) fun p hp=>?_
 cases s with
 | false =>
  refine build2 (Knw.one rfl) (cI qM) rfl rfl fun u=>?_
  refine bY (d:=I false l) 0 rfl hp rfl qK ?_ ?_; exact aA qM
  refine aE (d:=I false l) 0 rfl hp rfl (eN _ _) fun r=>?_
  exact fin ⟨rfl,rfl⟩ (dS (aD qS))
 | true =>
  refine aS qM fun _=>?_
  refine aO _ rfl (fun hc=>?_) (fun hc=>?_)
  ·refine build2 (Knw.one rfl) (cI qM) rfl rfl fun u=>?_
   refine bY (d:=I true l) 0 rfl hp rfl qK ?_ ?_; exact aA qM
   refine aE (d:=I true l) 0 rfl hp rfl (eN _ _) fun r=>?_
   rw [show (true&&decide (0<l.length))=true from decide_eq_true qN]
   exact fin ⟨rfl,rfl⟩ (dS (aD qS))
  ·refine build2 (Knw.one rfl) (cI qM) rfl rfl fun u=>?_
   refine bY (d:=I false l) 0 rfl hp rfl qK ?_ ?_; exact aA qM
   refine aE (d:=I false l) 0 rfl hp rfl (eN _ _) fun r=>?_
   rw [show (true&&decide (0<l.length))=false from decide_eq_false qN]
   exact fin ⟨rfl,rfl⟩ (dS (aD qS))
theorem uR (v:Value) (s:Bool) (n:Nat) :
  aY Tryz.prog 128 [.bool s,v] [(v,U (b9 n))] (fun r os fs=>os=[]∧fs=[(r,zd (if s then -(n:Int) else (n:Int)))]):=by
 have h:=made_meets v s (b9 n)
 have e:decide (0<(b9 n).length)=decide (0<n):=decide_eq_decide.2 ⟨fun h=>Nat.pos_of_ne_zero fun e=>by rw [e,dU] at h; exact absurd h qE,fun h=>List.length_pos_iff.2 fun e=>by have:=kI.1 e; omega⟩
 rw [e,zd_of] at h
 exact h
theorem fD (v:Value) (s:Bool) (n:Nat) (x:Int) (e:x=if s then -(n:Int) else (n:Int)) :
  aY Tryz.prog 128 [.bool s,v] [(v,U (b9 n))] (fun r os fs=>os=[]∧fs=[(r,zd x)]):=by rw [e]; exact uR v s n
theorem znorm_meets (v:Value) (s:Bool) (l:List Nat) (hl:Lim l) (ll:l.length≤1099511627776) :
  aY Tryz.prog 102 [v] [(v,I s l)] (fun r os fs=>os=[]∧fs=[(r,zd (iv s l))]):=by
 refine mV Tryz.func102 ?_
 refine aQ (aA (d:=I s l) qM) fun p hp=>?_
 refine aI (d:=I false []) fun q hq=>?_
 refine bC [0,1,2,3,4,5,6] [0,1,2,3,4,5,6] qK qK ?_
 refine aF 1 rfl hp ?_
 refine aB 1 rfl (aJ (aG _)) ?_
 refine aF 1 rfl hp ?_
 refine aK 1 rfl (aC (aG _)) (gD _) fun u=>?_
 refine cG (lK u l hl ll) fun w=>?_
 refine cG (uR w s (nv l)) fun r=>?_
 refine bY (d:=zd (iv s l)) 0 rfl hq rfl qK ?_ ?_; exact aA qM
 refine aE (d:=zd (iv s l)) 0 rfl hq rfl (eN _ _) fun r=>?_
 exact fin ⟨rfl,rfl⟩ (aM (dS (aV 0 _ _)) (aD qS))
theorem zneg_meets (v:Value) (s:Bool) (a:List Nat) (ha:Lim a) (la:a.length≤137438953472) :
  aY Tryz.prog 100 [v] [(v,I s a)] (fun r os fs=>os=[]∧fs=[(r,zd (-iv s a))]):=by
 refine mV Tryz.func100 ?_
 refine aQ (aA (d:=I s a) qM) fun p hp=>?_
 refine aI (d:=I false []) fun o ho=>?_
 refine bC [0,1,2,3,4,5,6,7] [0,1,2,3,4,5,6,7] qK qK ?_
 refine aF 1 rfl hp ?_
 refine aB 1 rfl (aJ (aG _)) ?_
 refine aF 1 rfl hp ?_
 refine aK 1 rfl (aC (aG _)) (gD _) fun u=>?_
 refine cG (lK u a ha qN) fun w=>?_
 have e : -iv s a=if !s then -(nv a:Int) else (nv a:Int):=by cases s <;> simp [iv]
 refine cG (fD w (!s) (nv a) (-iv s a) e) fun r=>?_
 refine bY (d:=zd (-iv s a)) 0 rfl ho rfl qK ?_ ?_; exact aA qM
 refine aE (d:=zd (-iv s a)) 0 rfl ho rfl (eN _ _) fun r=>?_
 exact fin ⟨rfl,rfl⟩ (aM (dS (aV 0 _ _)) (aD qS))
theorem oW (v:Value) (s:Bool) (a:List Nat) (ha:Lim a) (la:a.length≤137438953472) :
  aY Tryz.prog 52 [v] [(v,I s a)] (fun r os fs=>os=[]∧fs=[]∧r=.int .i64 (iv s a).sign):=by
 refine mV Tryz.func52 ?_
 refine aQ (aA (d:=I s a) qM) fun p hp=>?_
 refine aF 0 rfl hp ?_
 refine aK 0 rfl (aC (aG _)) (gD _) fun u=>?_
 refine cH (sH u a ha qN) ?_
 have hb:bH (nv a)=0↔nv a=0:=by unfold bH; split <;> simp_all
 refine aO _ rfl (fun hc=>?_) (fun hc=>?_)
 ·have h0:nv a=0:=hb.1 qN
  refine fin ⟨rfl,rfl,?_⟩ (dS (bO _ _))
  unfold iv; rw [h0]; cases s <;> rfl
 ·have h0:nv a≠0:=fun e=>hc (by rw [hb.2 e]; rfl)
  refine aF 0 rfl hp ?_
  refine aB 0 rfl (aJ (aG _)) ?_
  cases s with
  | true =>
   refine fin ⟨rfl,rfl,?_⟩ (dS (bO _ _))
   rw [show iv true a = -(nv a:Int) from rfl,Int.sign_eq_neg_one_of_neg qN]; rfl
  | false =>
   refine fin ⟨rfl,rfl,?_⟩ (dS (bO _ _))
   rw [show iv false a=(nv a:Int) from rfl,Int.sign_eq_one_of_pos qN]; rfl
theorem zmul_meets (v w:Value) (s t:Bool) (a b:List Nat) (ha:Lim a) (hb:Lim b) (la:a.length≤137438953472) (lb:b.length≤137438953472) :
  aY Tryz.prog 153 [v,w] [(v,I s a),(w,I t b)] (fun r os fs=>os=[]∧fs=[(r,zd (iv s a*iv t b))]):=by
 refine mV Tryz.func153 ?_
 refine aQ (aA (d:=I s a) qM) fun p hp=>?_
 refine aQ (aA (d:=I t b) qM) fun q hq=>?_
 refine aI (d:=I false []) fun o ho=>?_
 refine bC [0,1,2,3,4,5,6,7,8,9,10,11] [0,1,2,3,4,5,6,7,8,9,10,11] qK qK ?_
 refine aF 2 rfl hp ?_
 refine aB 2 rfl (aJ (aG _)) ?_
 refine aF 1 rfl hq ?_
 refine aB 1 rfl (aJ (aG _)) ?_
 refine gF (fun hc=>?_) (fun hc=>?_)
 ·
  refine aF 2 rfl hp ?_
  refine aK 2 rfl (aC (aG _)) (gD _) fun x=>?_
  refine aF 1 rfl hq ?_
  refine aK 1 rfl (aC (aG _)) (gD _) fun y=>?_
  refine cG (mul_meets x y a b ha hb qN qN) fun z=>?_
  have e:iv s a*iv t b = -((nv a*nv b:Nat):Int):=by cases s <;> cases t <;> simp_all [iv,Int.mul_neg,Int.neg_mul]
  refine cG (fD z true (nv a*nv b) (iv s a*iv t b) e) fun r=>?_
  refine bY (d:=zd (iv s a*iv t b)) 0 rfl ho rfl qK ?_ ?_; exact aA qM
  refine aE (d:=zd (iv s a*iv t b)) 0 rfl ho rfl (eN _ _) fun r=>?_
  exact fin ⟨rfl,rfl⟩ (aM (aM (dS (aV 0 _ _)) (aV 0 _ _)) (aD qS))
 ·
  refine aF 2 rfl hp ?_
  refine aK 2 rfl (aC (aG _)) (gD _) fun x=>?_
  refine aF 1 rfl hq ?_
  refine aK 1 rfl (aC (aG _)) (gD _) fun y=>?_
  refine cG (mul_meets x y a b ha hb qN qN) fun z=>?_
  have e:iv s a*iv t b=((nv a*nv b:Nat):Int):=by cases s <;> cases t <;> simp_all [iv,Int.mul_neg,Int.neg_mul,Int.neg_mul_neg]
  refine cG (fD z false (nv a*nv b) (iv s a*iv t b) e) fun r=>?_
  refine bY (d:=zd (iv s a*iv t b)) 0 rfl ho rfl qK ?_ ?_; exact aA qM
  refine aE (d:=zd (iv s a*iv t b)) 0 rfl ho rfl (eN _ _) fun r=>?_
  exact fin ⟨rfl,rfl⟩ (aM (aM (dS (aV 0 _ _)) (aV 0 _ _)) (aD qS))
theorem zadd_meets (v w:Value) (s t:Bool) (a b:List Nat) (ha:Lim a) (hb:Lim b) (la:a.length≤137438953472) (lb:b.length≤137438953472) :
  aY Tryz.prog 99 [v,w] [(v,I s a),(w,I t b)] (fun r os fs=>os=[]∧fs=[(r,zd (iv s a+iv t b))]):=by
 refine mV Tryz.func99 ?_
 refine aQ (aA (d:=I s a) qM) fun p hp=>?_
 refine aQ (aA (d:=I t b) qM) fun q hq=>?_
 refine aI (d:=I false []) fun o ho=>?_
 refine aF 2 rfl hp ?_
 refine aB 2 rfl (aJ (aG _)) ?_
 refine aF 1 rfl hq ?_
 refine aB 1 rfl (aJ (aG _)) ?_
 refine beq_split (fun hc=>?_) (fun hc=>?_)
 ·refine bC [0,1,2,3,4,5,6,7,8] [0,1,2,3,4,5,6,7,8] qK qK ?_
  refine aF 2 rfl hp ?_
  refine aB 2 rfl (aJ (aG _)) ?_
  refine aF 2 rfl hp ?_
  refine aK 2 rfl (aC (aG _)) (gD _) fun x=>?_
  refine aF 1 rfl hq ?_
  refine aK 1 rfl (aC (aG _)) (gD _) fun y=>?_
  refine cG (vY x y a b ha hb qN qN) fun z=>?_
  have e:iv s a+iv t b=if s then -((nv a+nv b:Nat):Int) else ((nv a+nv b:Nat):Int):=by subst hc; cases s <;> simp [iv]; omega
  refine cG (fD z s (nv a+nv b) (iv s a+iv t b) e) fun r=>?_
  refine bY (d:=zd (iv s a+iv t b)) 0 rfl ho rfl qK ?_ ?_; exact aA qM
  refine aE (d:=zd (iv s a+iv t b)) 0 rfl ho rfl (eN _ _) fun r=>?_
  exact fin ⟨rfl,rfl⟩ (aM (aM (dS (aV 0 _ _)) (aV 0 _ _)) (aD qS))
 ·
  refine aF 2 rfl hp ?_
  refine aK 2 rfl (aC (aG _)) (gD _) fun x=>?_
  refine aF 1 rfl hq ?_
  refine aK 1 rfl (aC (aG _)) (gD _) fun y=>?_
  refine cF (tZ x y a b ha hb qN) ?_
  rintro _ _ _ ⟨rfl,⟨hlt,rfl,rfl⟩ | ⟨hle,z,rfl,rfl⟩⟩
  ·
   refine aF 1 rfl hq ?_
   refine aK 1 rfl (aC (aG _)) (gD _) fun y'=>?_
   refine aF 2 rfl hp ?_
   refine aK 2 rfl (aC (aG _)) (gD _) fun x'=>?_
   refine cF (tZ y' x' b a hb ha qN) ?_
   rintro _ _ _ ⟨rfl,⟨hlt',rfl,rfl⟩ | ⟨hle',z,rfl,rfl⟩⟩
   ·omega
   refine aF 1 rfl hq ?_
   refine aB 1 rfl (aJ (aG _)) ?_
   have e:iv s a+iv t b=if t then -((nv b - nv a:Nat):Int) else ((nv b - nv a:Nat):Int):=by cases s <;> cases t <;> simp_all [iv] <;> omega
   refine cG (fD z t (nv b - nv a) (iv s a+iv t b) e) fun r=>?_
   refine bY (d:=zd (iv s a+iv t b)) 0 rfl ho rfl qK ?_ ?_; exact aA qM
   refine aE (d:=zd (iv s a+iv t b)) 0 rfl ho rfl (eN _ _) fun r=>?_
   exact fin ⟨rfl,rfl⟩ (aM (aM (dS (aV 0 _ _)) (aV 0 _ _)) (aD qS))
  ·
   refine aF 2 rfl hp ?_
   refine aB 2 rfl (aJ (aG _)) ?_
   have e:iv s a+iv t b=if s then -((nv a - nv b:Nat):Int) else ((nv a - nv b:Nat):Int):=by cases s <;> cases t <;> simp_all [iv] <;> omega
   refine cG (fD z s (nv a - nv b) (iv s a+iv t b) e) fun r=>?_
   refine bY (d:=zd (iv s a+iv t b)) 0 rfl ho rfl qK ?_ ?_; exact aA qM
   refine aE (d:=zd (iv s a+iv t b)) 0 rfl ho rfl (eN _ _) fun r=>?_
   exact fin ⟨rfl,rfl⟩ (aM (aM (dS (aV 0 _ _)) (aV 0 _ _)) (aD qS))
theorem zsub_meets (v w:Value) (s t:Bool) (a b:List Nat) (ha:Lim a) (hb:Lim b) (la:a.length≤137438953472) (lb:b.length≤137438953472) :
  aY Tryz.prog 97 [v,w] [(v,I s a),(w,I t b)] (fun r os fs=>os=[]∧fs=[(r,zd (iv s a - iv t b))]):=by
 refine mV Tryz.func97 ?_
 refine aQ (aA (d:=I s a) qM) fun p hp=>?_
 refine aQ (aA (d:=I t b) qM) fun q hq=>?_
 refine aI (d:=I false []) fun o ho=>?_
 refine aE (d:=I s a) 2 rfl hp rfl (eN _ _) fun x=>?_
 refine aF 1 rfl hq ?_
 refine aB 1 rfl (aJ (aG _)) ?_
 refine aF 1 rfl hq ?_
 refine aK 1 rfl (aC (aG _)) (gD _) fun u=>?_
 refine build2 (Knw.one rfl) (cI qM) rfl rfl fun y=>?_
 refine cG (zadd_meets x y s (!t) a b ha hb la lb) fun r=>?_
 have e:iv s a+iv (!t) b=iv s a - iv t b:=by cases t <;> simp [iv] <;> omega
 rw [e]
 refine bY (d:=zd (iv s a - iv t b)) 0 rfl ho rfl qK ?_ ?_; exact aA qM
 refine aE (d:=zd (iv s a - iv t b)) 0 rfl ho rfl (eN _ _) fun r=>?_
 exact fin ⟨rfl,rfl⟩ (aM (aM (dS (aV 0 _ _)) (aV 0 _ _)) (aD qS))
theorem fB (x:Int) (h1 : -9223372036854775808≤x) (h2:x<9223372036854775808) :
  aY Tryz.prog 95 [.int .i64 x] [] (fun r os fs=>os=[]∧fs=[(r,zd x)]):=by
 refine mV Tryz.func95 ?_
 refine aI (d:=I false []) fun o ho=>?_
 refine bJ ⟨_,Tryz.underlying2⟩ Tryz.underlying22 (x%18446744073709551616) (dA _) ?_
 refine aO _ rfl (fun hc=>?_) (fun hc=>?_)
 ·refine oP (m:=((x.natAbs:Nat):Int)) (by rw [dA]; omega) ?_
  refine bG rfl qN ?_
  refine lit_U x.natAbs rfl fun u=>?_
  refine cG (lK u [x.natAbs] (Lim.cons qN Lim.nil) qP) fun w=>?_
  rw [show nv [x.natAbs]=x.natAbs from by simp [nv]]
  refine cG (fD w true x.natAbs x (by simp only [if_true]; omega)) fun r=>?_
  refine bY (d:=zd x) 0 rfl ho rfl qK ?_ ?_; exact aA qM
  refine aE (d:=zd x) 0 rfl ho rfl (eN _ _) fun r=>?_
  exact fin ⟨rfl,rfl⟩ (dS (aD qS))
 ·refine aL rfl qN ?_
  refine lit_U x.natAbs qN fun u=>?_
  refine cG (lK u [x.natAbs] (Lim.cons qN Lim.nil) qP) fun w=>?_
  rw [show nv [x.natAbs]=x.natAbs from by simp [nv]]
  refine cG (fD w false x.natAbs x (by simp only [Bool.false_eq_true,if_false]; omega)) fun r=>?_
  refine bY (d:=zd x) 0 rfl ho rfl qK ?_ ?_; exact aA qM
  refine aE (d:=zd x) 0 rfl ho rfl (eN _ _) fun r=>?_
  exact fin ⟨rfl,rfl⟩ (dS (aD qS))
theorem div_signs {n d:Nat} {s t:Bool} (hd:d≠0) (h:s=true∧n%d≠0) :
  (if s then -(n:Int) else n)/(if t then -(d:Int) else d)=(if (s != t) then -((n/d+1:Nat):Int) else ((n/d+1:Nat):Int)) ∧
  (if s then -(n:Int) else n)%(if t then -(d:Int) else d)=((d - n%d:Nat):Int):=by
 obtain ⟨rfl,hr⟩:=h
 have hm:=Nat.mod_lt n (Nat.pos_of_ne_zero hd)
 have hdm:=Nat.div_add_mod n d
 have h1:(-(n:Int))%(d:Int)=((d - n%d:Nat):Int)∧(-(n:Int))/(d:Int) = -((n/d+1:Nat):Int):=by
  have:=Int.ediv_emod_unique (a := -(n:Int)) (b:=(d:Int)) (r:=((d - n%d:Nat):Int)) (q := -((n/d+1:Nat):Int)) qN
  refine ((this.2 ⟨?_,by omega,by omega⟩).symm)
  have e:(d:Int) * -((n/d+1:Nat):Int) = -((d*(n/d):Nat):Int) - d:=by
   rw [Int.mul_neg]; push_cast; rw [Int.mul_add]; omega
  rw [e]
  omega
 cases t with
 | false=>simp only [if_true,Bool.false_eq_true,if_false]; exact ⟨h1.2,h1.1⟩
 | true =>
  simp only [if_true]
  rw [Int.ediv_neg,Int.emod_neg,h1.1,h1.2]
  exact ⟨by simp,rfl⟩
theorem div_signs0 {n d:Nat} {s t:Bool} (h:¬ (s=true∧n%d≠0)) :
  (if s then -(n:Int) else n)/(if t then -(d:Int) else d)=(if (s != t) then -((n/d:Nat):Int) else ((n/d:Nat):Int)) ∧
  (if s then -(n:Int) else n)%(if t then -(d:Int) else d)=((n%d:Nat):Int):=by
 cases s with
 | false=>cases t <;> simp [Int.ediv_neg,Int.emod_neg]
 | true =>
  have hr:n%d=0:=by
   rcases Nat.eq_zero_or_pos (n%d) with h0 | h0
   ·exact h0
   ·exact absurd ⟨rfl,by omega⟩ h
  have hdvd:(d:Int) ∣ (n:Int):=Int.natCast_dvd_natCast.2 (Nat.dvd_of_mod_eq_zero hr)
  have h1:(-(n:Int))/(d:Int) = -((n/d:Nat):Int):=by rw [Int.neg_ediv_of_dvd hdvd,Int.natCast_ediv]
  have h2:(-(n:Int))%(d:Int)=((n%d:Nat):Int):=by rw [hr]; exact Int.emod_eq_zero_of_dvd (Int.dvd_neg.2 hdvd)
  cases t with
  | false=>simp only [if_true,Bool.false_eq_true,if_false]; exact ⟨h1,h2⟩
  | true=>simp only [if_true]; rw [Int.ediv_neg,Int.emod_neg,h1,h2]; exact ⟨by simp,rfl⟩
theorem zdivmod_meets (v w:Value) (s t:Bool) (a b:List Nat) (ha:Lim a) (hb:Lim b) (la:a.length≤137438953472) (lb:b.length≤137438953472) (h0:nv b≠0) :
  aY Tryz.prog 140 [v,w] [(v,I s a),(w,I t b)] (fun r os fs=>os=[]∧∃ q m,r=.tuple #[q,m,.bool true]∧fs=[(q,zd (iv s a/iv t b)),(m,zd (iv s a%iv t b))]):=by
 have hml:=Nat.mod_lt (nv a) (Nat.pos_of_ne_zero h0)
 have hrl:=e8 (Nat.lt_trans hml (l9 hb))
 have hql:=e8 (Nat.lt_of_le_of_lt (Nat.div_le_self (nv a) (nv b)) (l9 ha))
 have key1:=@div_signs (nv a) (nv b) s t h0
 have key0:=@div_signs0 (nv a) (nv b) s t
 change (s=true∧_→iv s a/iv t b=_∧iv s a%iv t b=_) at key1
 change (¬ (s=true∧_)→iv s a/iv t b=_∧iv s a%iv t b=_) at key0
 have hrp:0<(b9 (nv a%nv b)).length↔nv a%nv b≠0:=⟨fun h e=>by rw [e,dU] at h; exact absurd h qE,fun h=>List.length_pos_iff.2 fun e=>h (kI.1 e)⟩
 refine mV Tryz.func140 ?_
 refine aQ (aA (d:=I s a) qM) fun p hp=>?_
 refine aQ (aA (d:=I t b) qM) fun q hq=>?_
 refine aI (d:=I false []) fun o ho=>?_
 refine aI (d:=I false []) fun o' ho'=>?_
 refine aF 3 rfl hp ?_
 refine aK 3 rfl (aC (aG _)) (gD _) fun x=>?_
 refine aF 2 rfl hq ?_
 refine aK 2 rfl (aC (aG _)) (gD _) fun y=>?_
 refine cF (divmod_meets x y a b ha hb qN qN h0) ?_
 rintro _ _ _ ⟨rfl,n,d,rfl,rfl⟩
 refine aF 3 rfl hp ?_
 refine aB 3 rfl (aJ (aG _)) ?_
 cases s with
 | false =>
  have k0:=key0 (fun h=>by cases h.1)
  refine aF 3 rfl hp ?_
  refine aB 3 rfl (aJ (aG _)) ?_
  refine aF 2 rfl hq ?_
  refine aB 2 rfl (aJ (aG _)) ?_
  refine gF (fun hc=>?_) (fun hc=>?_)
  ·refine cG (fD n true (nv a/nv b) (iv false a/iv t b) (by rw [k0.1,if_pos (bne_iff_ne.2 hc)]; rfl)) fun r1=>?_
   refine cG (fD d false (nv a%nv b) (iv false a%iv t b) k0.2) fun r2=>?_
   refine bY (d:=zd (iv false a/iv t b)) 1 rfl ho rfl qK ?_ ?_; exact aA qM
   refine bY (d:=zd (iv false a%iv t b)) 0 rfl ho' rfl qK ?_ ?_; exact aA qM
   refine aE (d:=zd (iv false a/iv t b)) 1 rfl ho rfl (eN _ _) fun r=>?_
   refine aE (d:=zd (iv false a%iv t b)) 0 rfl ho' rfl (eN _ _) fun r'=>?_
   refine fin ⟨rfl,r,r',rfl,rfl⟩ (aM (aM (aM (dS (aV 0 _ _)) (aV 0 _ _)) (aV 0 _ _)) (aD qS))
  ·refine cG (fD n false (nv a/nv b) (iv false a/iv t b) (by rw [k0.1,if_neg (fun h=>bne_iff_ne.1 h hc)]; rfl)) fun r1=>?_
   refine cG (fD d false (nv a%nv b) (iv false a%iv t b) k0.2) fun r2=>?_
   refine bY (d:=zd (iv false a/iv t b)) 1 rfl ho rfl qK ?_ ?_; exact aA qM
   refine bY (d:=zd (iv false a%iv t b)) 0 rfl ho' rfl qK ?_ ?_; exact aA qM
   refine aE (d:=zd (iv false a/iv t b)) 1 rfl ho rfl (eN _ _) fun r=>?_
   refine aE (d:=zd (iv false a%iv t b)) 0 rfl ho' rfl (eN _ _) fun r'=>?_
   refine fin ⟨rfl,r,r',rfl,rfl⟩ (aM (aM (aM (dS (aV 0 _ _)) (aV 0 _ _)) (aV 0 _ _)) (aD qS))
 | true =>
  refine aS qM fun _=>?_
  refine aO _ rfl (fun hc=>?_) (fun hc=>?_)
  ·have hr:nv a%nv b≠0:=hrp.1 qN
   have k1:=key1 ⟨rfl,hr⟩
   refine lit_U 1 rfl fun u=>?_
   refine cG (vY n u (b9 (nv a/nv b)) [1] (cK _) (Lim.cons qE Lim.nil) qN qP) fun n'=>?_
   rw [dN,show nv [1]=1 from by simp [nv]]
   refine aF 2 rfl hq ?_
   refine aK 2 rfl (aC (aG _)) (gD _) fun y'=>?_
   refine cF (tZ y' d b (b9 (nv a%nv b)) hb (cK _) qN) ?_
   rw [dN]
   rintro _ _ _ ⟨rfl,⟨hlt,rfl,rfl⟩ | ⟨hle,d',rfl,rfl⟩⟩
   ·omega
   refine aF 3 rfl hp ?_
   refine aB 3 rfl (aJ (aG _)) ?_
   refine aF 2 rfl hq ?_
   refine aB 2 rfl (aJ (aG _)) ?_
   refine gF (fun hc=>?_) (fun hc=>?_)
   ·refine cG (fD n' true (nv a/nv b+1) (iv true a/iv t b) (by rw [k1.1,if_pos (bne_iff_ne.2 hc)]; rfl)) fun r1=>?_
    refine cG (fD d' false (nv b - nv a%nv b) (iv true a%iv t b) k1.2) fun r2=>?_
    refine bY (d:=zd (iv true a/iv t b)) 1 rfl ho rfl qK ?_ ?_; exact aA qM
    refine bY (d:=zd (iv true a%iv t b)) 0 rfl ho' rfl qK ?_ ?_; exact aA qM
    refine aE (d:=zd (iv true a/iv t b)) 1 rfl ho rfl (eN _ _) fun r=>?_
    refine aE (d:=zd (iv true a%iv t b)) 0 rfl ho' rfl (eN _ _) fun r'=>?_
    refine fin ⟨rfl,r,r',rfl,rfl⟩ (aM (aM (aM (dS (aV 0 _ _)) (aV 0 _ _)) (aV 0 _ _)) (aD qS))
   ·refine cG (fD n' false (nv a/nv b+1) (iv true a/iv t b) (by rw [k1.1,if_neg (fun h=>bne_iff_ne.1 h hc)]; rfl)) fun r1=>?_
    refine cG (fD d' false (nv b - nv a%nv b) (iv true a%iv t b) k1.2) fun r2=>?_
    refine bY (d:=zd (iv true a/iv t b)) 1 rfl ho rfl qK ?_ ?_; exact aA qM
    refine bY (d:=zd (iv true a%iv t b)) 0 rfl ho' rfl qK ?_ ?_; exact aA qM
    refine aE (d:=zd (iv true a/iv t b)) 1 rfl ho rfl (eN _ _) fun r=>?_
    refine aE (d:=zd (iv true a%iv t b)) 0 rfl ho' rfl (eN _ _) fun r'=>?_
    refine fin ⟨rfl,r,r',rfl,rfl⟩ (aM (aM (aM (dS (aV 0 _ _)) (aV 0 _ _)) (aV 0 _ _)) (aD qS))
  ·have k0:=key0 (fun h=>hc (by have:=hrp.2 h.2; omega))
   refine aF 3 rfl hp ?_
   refine aB 3 rfl (aJ (aG _)) ?_
   refine aF 2 rfl hq ?_
   refine aB 2 rfl (aJ (aG _)) ?_
   refine gF (fun hc=>?_) (fun hc=>?_)
   ·refine cG (fD n true (nv a/nv b) (iv true a/iv t b) (by rw [k0.1,if_pos (bne_iff_ne.2 hc)]; rfl)) fun r1=>?_
    refine cG (fD d false (nv a%nv b) (iv true a%iv t b) k0.2) fun r2=>?_
    refine bY (d:=zd (iv true a/iv t b)) 1 rfl ho rfl qK ?_ ?_; exact aA qM
    refine bY (d:=zd (iv true a%iv t b)) 0 rfl ho' rfl qK ?_ ?_; exact aA qM
    refine aE (d:=zd (iv true a/iv t b)) 1 rfl ho rfl (eN _ _) fun r=>?_
    refine aE (d:=zd (iv true a%iv t b)) 0 rfl ho' rfl (eN _ _) fun r'=>?_
    refine fin ⟨rfl,r,r',rfl,rfl⟩ (aM (aM (aM (dS (aV 0 _ _)) (aV 0 _ _)) (aV 0 _ _)) (aD qS))
   ·refine cG (fD n false (nv a/nv b) (iv true a/iv t b) (by rw [k0.1,if_neg (fun h=>bne_iff_ne.1 h hc)]; rfl)) fun r1=>?_
    refine cG (fD d false (nv a%nv b) (iv true a%iv t b) k0.2) fun r2=>?_
    refine bY (d:=zd (iv true a/iv t b)) 1 rfl ho rfl qK ?_ ?_; exact aA qM
    refine bY (d:=zd (iv true a%iv t b)) 0 rfl ho' rfl qK ?_ ?_; exact aA qM
    refine aE (d:=zd (iv true a/iv t b)) 1 rfl ho rfl (eN _ _) fun r=>?_
    refine aE (d:=zd (iv true a%iv t b)) 0 rfl ho' rfl (eN _ _) fun r'=>?_
    refine fin ⟨rfl,r,r',rfl,rfl⟩ (aM (aM (aM (dS (aV 0 _ _)) (aV 0 _ _)) (aV 0 _ _)) (aD qS))
theorem iv_abs (s:Bool) (a:List Nat):(iv s a).natAbs=nv a:=by cases s <;> simp [iv]
theorem zd_I (x:Int):zd x=I (decide (x<0)) (b9 x.natAbs):=rfl
theorem rJ (x:Int):iv (decide (x<0)) (b9 x.natAbs)=x:=by
 unfold iv
 rw [dN]
 by_cases hx:x<0
 ·simp only [hx,decide_true,if_true]; omega
 ·simp only [hx,decide_false,Bool.false_eq_true,if_false]; omega
theorem TEl.pos {P:Program} {e:TypeId} {size bytes:Nat} (he:TEl P e size bytes):0<size:=by
 obtain ⟨ti,z,i1,rfl,i3,i4,i5,i6⟩:=he.info
 exact i6
theorem Dat.cells_pos:∀ d:Dat,0<d.cells
 | .one _=>Nat.zero_lt_one
 | .sl .. => Nat.zero_lt_one
 | .ptr _=>Nat.zero_lt_one
 | .mp .. => Nat.zero_lt_one
 | .lp _=>Nat.zero_lt_one
 | .cat a b=>Nat.add_pos_left (Dat.cells_pos a) _
def LD {α:Type} (size:Nat) (f:α→Dat) (z:α) (l:List α):Dat:=.sl size l.length fun i=>f (l.getD i z)
def kU {α:Type} (size:Nat) (f:α→Dat) (z:α) (v:Value) (l:List α):Own:=bL v size l.length fun i=>f (l.getD i z)
section
variable {α:Type} {size:Nat} {f:α→Dat} {z:α} {P:Program} {t e ty:TypeId} {bytes:Nat} {os:List Own} {fs:List bA} {K:cE}
theorem empty_L [ht:TSl P t e size] [he:TEl P e size bytes] (f:α→Dat) (z:α) (hsz:size≤16) (k:∀ v,eQ v→K v (kU size f z v []::os) fs):BuildSliceK P t 0 [] os fs K:=by
 have h1:=gZ (P:=P) (t:=t) (os:=os) (fs:=fs) (K:=fun u os' fs'=>∃ os'' fs'',Seals os' fs' os'' fs''∧K u os'' fs'') (n:=0) [] [] rfl rfl qE hsz trivial
 refine ⟨Grw.sealed (h1 fun v hv=>⟨_,_,?_,k v hv⟩).out⟩
 exact Seals.own_cong (hsz:=.inl he.pos) (os:=bL v size 0 (fun i=>([]:List Dat).getD i (.one undef))::os) (fs:=fs) 0 (n':=([]:List α).length) (fun i=>f (([]:List α).getD i z)) rfl rfl fun i hi=>absurd hi (Nat.not_lt_zero _)
theorem Seals.knw_cong {v:Value} {n n':Nat} {g g':Nat→Dat} (hn:n=n') (h:∀ i,i<n→g i=g' i):Seals os ((v,.sl size n g)::fs) os ((v,.sl size n' g')::fs):=by
 subst hn
 exact aM (Seals.add (Knw.sl_cong (cI (List.Mem.head _)) h)) (aD fun F hF=>by
  rcases List.mem_cons.1 hF with rfl | hF
  ·exact .head _
  ·exact .tail _ (.tail _ hF))
theorem rG [ht:TSl P t e size] [he:TEl P e size bytes] {x:Value} (f:α→Dat) (z:α) (a:α) (hsz:size≤16) (hx:Reads os fs x (f a)) (hc:(f a).cells=size) (k:∀ v,K v os ((v,LD size f z [a])::fs)):BuildSliceK P t 1 [(0,x)] os fs K:=by
 have h1:=iQ (P:=P) (t:=t) (os:=os) (fs:=fs) (K:=fun u os' fs'=>∃ os'' fs'',Seals os' fs' os'' fs''∧K u os'' fs'') (n:=1) [x] [f a] rfl rfl qE hsz ⟨hx,hc,trivial⟩
 refine ⟨Grw.sealed (h1 fun v=>⟨_,_,?_,k v⟩).out⟩
 exact Seals.knw_cong rfl fun i hi=>by
  have:i=0:=by omega
  subst this; rfl
theorem eU [ht:TSl P t e size] [he:TEl P e size bytes] {a b:Value} {l m:List α} (pos:Nat) (h:bQ os pos=some (kU size f z a l)) (hs:eQ a) (hb:Knw os fs b (LD size f z m)) (hm:l.length+m.length≤9223372036854775807) (hby:(l.length+m.length)*bytes≤140737488355328)
  (k:∀ v,eQ v→K v (setOwn os pos (kU size f z v (l++m))) fs):AppendK P [t,t] ty a b os fs K:=by
 have h1:=vV (P:=P) (t:=t) (ty:=ty) (K:=fun u os' fs'=>∃ os'' fs'',Seals os' fs' os'' fs''∧K u os'' fs'') pos h hs hb hm hby
 refine ⟨Dyn.sealed (h1 fun v hv=>⟨_,_,?_,k v hv⟩).out⟩
 have h2:=Seals.own_cong (hsz:=.inl he.pos) (os:=setOwn os pos (bL v size (l.length+m.length) (fun i=>if i<l.length then f (l.getD i z) else f (m.getD (i - l.length) z)))) (fs:=fs) pos (n':=(l++m).length) (fun i=>f ((l++m).getD i z)) (k8 h) qP fun i hi=>by
  simp only [gE]
  by_cases hil:i<l.length
  ·rw [if_pos hil,List.getElem?_append_left hil]
  ·rw [if_neg hil,List.getElem?_append_right qN]
 rw [set_set] at h2
 exact h2
theorem getD_setL {l:List α} {i j:Nat} {x z:α} (h:j<l.length):(l.set j x).getD i z=if i=j then x else l.getD i z:=by
 simp only [gE,List.getElem?_set]
 by_cases hij:j=i
 ·subst hij; simp [h]
 ·have:i≠j:=fun e=>hij e.symm
  simp [hij,this]
theorem t5 {v x:Value} {l:List α} {j:Nat} (pos:Nat) (h:bQ os pos=some (kU size f z v l)) (a:α) (hc:(f a).cells=size) (ht:(P.info? ty).map (·.size)=some size) (hx:Reads os fs x (f a))
  (hj:j<l.length) (k:K undef (setOwn os pos (kU size f z v (l.set j a))) fs):oT P ty (jP v (j*size)) x os fs K:=by
 have h1:=rA (P:=P) (ty:=ty) (x:=x) (d:=f a) (fs:=fs)
  (K:=fun u os' fs'=>∃ os'' fs'',Seals os' fs' os'' fs''∧K u os'' fs'') pos h j hj hc ht hx
 refine ⟨Dyn.sealed (h1 ⟨_,_,?_,k⟩).out⟩
 have h2:=Seals.own_cong (hsz:=.inl (hc ▸ Dat.cells_pos _)) (os:=setOwn os pos (bL v size l.length (upd (fun i=>f (l.getD i z)) j (f a)))) (fs:=fs) pos (n':=(l.set j a).length) (fun i=>f ((l.set j a).getD i z)) (k8 h) qP fun i hi=>by
  simp only [upd,getD_setL hj]
  by_cases hij:i=j
  ·simp [hij]
  ·simp [hij]
 rw [set_set] at h2
 exact h2
theorem Seals.L {v:Value} {l:List α} (pos:Nat) (h:bQ os pos=some (kU size f z v l)) (hs:eQ v):Seals os fs (eE os pos) ((v,LD size f z l)::fs) :=
 Seals.slice pos (fun i=>f (l.getD i z)) h hs fun _ _=>rfl
end
def J (x:Bool×List Nat):Dat:=I x.1 x.2
def jv (x:Bool×List Nat):Int:=iv x.1 x.2
def cn (x:Int):Bool×List Nat:=(decide (x<0),b9 x.natAbs)
theorem jv_cn (x:Int):jv (cn x)=x:=rJ x
theorem eZ {α:Type} {l:List α} {i:Nat} (z:α) (h:i<l.length):l.getD i z∈l:=by
 rw [gE,List.getElem?_eq_getElem h]; exact List.getElem_mem h
theorem BuildSliceK.pre {P:Program} {t:TypeId} {n:Nat} {ps:List (Nat×Value)} {os os':List Own} {fs fs':List bA} {K:cE} (hs:Seals os fs os' fs') (h:BuildSliceK P t n ps os' fs' K):BuildSliceK P t n ps os fs K :=
 ⟨fun G w hw=>h.out G w (hs G w hw)⟩
def addE (x:Nat):Nat→List Oper→List Oper
 | _,[]=>[]
 | 0,o::r=>{ o with after:=o.after.push ⟨x,.chain⟩ }::r
 | k+1,o::r=>o::addE x k r
theorem qU (x:Nat):∀ (k:Nat) (L:List Oper) (i:Nat),(addE x k L)[i]? = if i=k then (L[i]?).map fun o=>{ o with after:=o.after.push ⟨x,.chain⟩ } else L[i]?
 | _,[],i=>by simp [addE]
 | 0,o::r,0=>by simp [addE]
 | 0,o::r,i+1=>by simp [addE]
 | k+1,o::r,0=>by simp [addE]
 | k+1,o::r,i+1=>by simp [addE,qU x k r i]
theorem addE_len (x:Nat):∀ (k:Nat) (L:List Oper),(addE x k L).length=L.length
 | _,[]=>by simp [addE]
 | 0,o::r=>by simp [addE]
 | k+1,o::r=>by simp [addE,addE_len x k r]
theorem yielded_addE (x k:Nat) (L:List Oper) (t:Array Value):yielded (addE x k L).toArray t=yielded L.toArray t:=by
 funext i
 have h:((addE x k L).toArray[i]?).bind (·.dst)=(L.toArray[i]?).bind (·.dst):=by
  simp only [List.getElem?_toArray,qU]
  split
  ·cases L[i]? <;> rfl
  ·rfl
 simp only [yielded,h]
theorem lU {P:Program} {x k:Nat} {L:List Oper} {Q:Exit→Act→World→Prop}:∀ (l:List Nat),dK P (addE x k L).toArray Q l=dK P L.toArray Q l
 | []=>rfl
 | i::rest=>by
  have ih:=lU (P:=P) (x:=x) (k:=k) (L:=L) (Q:=Q) rest
  funext a w
  simp only [dK,yielded_addE,ih,List.getElem?_toArray,qU]
  by_cases hik:i=k
  ·rw [if_pos hik]
   cases L[i]? <;> rfl
  ·rw [if_neg hik]
structure OrdK (P:Program) (N:Nat) (L:List Oper) (f:Fr) (os:List Own) (fs:List bA) (K:jD):Prop where
 out:∀ (G:Ctx) (Q:iX),Q .normal=K→∀ l,iS .any L l→∀ a w,Knows G N f a→Holds G os fs w→dK P L.toArray (Qhat N G Q) l a w
theorem schedule_ord {L:List Oper} {g:List Nat} (h:nS L.length g 0 L=true) (mixed:Bool) (t:Nat):iS .any L (Region.schedule mixed L.toArray t):=by
 have he:=iP h
 have weaken:∀ {m:Region.Mode} {l:List Nat},iS m L l→iS .any L l:=fun ho=>⟨ho.nodup,ho.all,fun pre i post hp j ⟨o,h1,e,h2,h3,h4⟩=>ho.before pre i post hp j ⟨o,h1,e,h2,qR h3,h4⟩⟩
 have text:∀ t,iS .text L (Region.linearise .text L.toArray t):=fun t=>dL (ops:=L.toArray) id (fun i j ⟨o,h1,e,h2,h3,h4⟩=>by
  have:=he i o h1 e h2; subst h4; exact ⟨by simpa using this.1,by simpa using this.2.1 h3⟩) t
 have any:∀ t,iS .any L (Region.linearise .any L.toArray t):=fun t=>dL (ops:=L.toArray) id (fun i j ⟨o,h1,e,h2,h3,h4⟩=>by
  have:=he i o h1 e h2; subst h4; exact ⟨by simpa using this.1,by simpa using this.2.2.1 h3⟩) t
 have gc:∀ t,iS .gc L (Region.linearise .gc L.toArray t):=fun t=>dL (ops:=L.toArray) (posOf g) (fun i j ⟨o,h1,e,h2,h3,h4⟩=>by
  have:=he i o h1 e h2; subst h4; exact ⟨by simpa using this.1,by simpa using this.2.2.2 h3⟩) t
 unfold Region.schedule
 split
 ·exact any t
 ·split
  ·exact weaken (text _)
  ·exact weaken (gc _)
theorem eT {P:Program} {N id:Nat} {L:List Oper} {f:Fr} {os:List Own} {fs:List bA} {K:jD} (g:List Nat) (hok:nS L.length g 0 L=true) (h:OrdK P N L f os fs K):DrawK P N id L f os fs K :=
 ⟨fun G Q hQ r a w hk hw=>sT fun t=>h.out G Q hQ _ (schedule_ord hok _ t) a _ hk (hw.grow ((Below.refl w.heap.size w).drew))⟩
theorem cL {P:Program} {N:Nat} {L:List Oper} {f:Fr} {os:List Own} {fs:List bA} {K:jD} (x y:Nat) (hx:Nat.blt x L.length=true) (hy:Nat.blt y L.length=true) (hne:Nat.beq x y=false)
  (h1:OrdK P N (addE x y L) f os fs K) (h2:OrdK P N (addE y x L) f os fs K):OrdK P N L f os fs K:=by
 refine ⟨fun G Q hQ l hl a w hk hw=>?_⟩
 have hx':x<L.length:=by simpa using hx
 have hy':y<L.length:=by simpa using hy
 have hne':x≠y:=fun e=>by subst e; simp at hne
 have key:∀ x y,(∀ pre post,l=pre++y::post→x∈pre)→iS .any (addE x y L) l:=by
  intro x y hxy
  refine ⟨hl.nodup,fun i=>by rw [addE_len]; exact hl.all i,fun pre i post hp j ⟨o,h1,e,h2,h3,h4⟩=>?_⟩
  rw [qU] at h1
  by_cases hik:i=y
  ·rw [if_pos hik] at h1
   cases hL:L[i]? with
   | none=>simp [hL] at h1
   | some o' =>
    simp only [hL,Option.map_some,Option.some.injEq] at h1
    subst h1
    simp only [Array.toList_push,List.mem_append,List.mem_singleton] at h2
    rcases h2 with h2 | h2
    ·exact hl.before pre i post hp j ⟨o',hL,e,h2,h3,h4⟩
    ·subst h2
     simp only at h4
     subst h4
     exact hxy pre post (by rw [hp,hik])
  ·rw [if_neg hik] at h1
   exact hl.before pre i post hp j ⟨o,h1,e,h2,h3,h4⟩
 have hxm:x∈l:=(hl.all x).2 hx'
 have hym:y∈l:=(hl.all y).2 hy'
 obtain ⟨pre,post,rfl⟩:=List.append_of_mem hym
 have hnod:=hl.nodup
 have uniq:∀ (z:Nat) (p q p' q':List Nat),(p++z::q).Nodup→p++z::q=p'++z::q'→p=p':=by
  intro z p
  induction p with
  | nil =>
   intro q p' q' hn he
   cases p' with
   | nil=>rfl
   | cons c p' =>
    simp only [List.nil_append,List.cons_append,List.cons.injEq] at he
    obtain ⟨rfl,rfl⟩:=he
    simp at hn
  | cons c p ih =>
   intro q p' q' hn he
   cases p' with
   | nil =>
    simp only [List.nil_append,List.cons_append,List.cons.injEq] at he
    obtain ⟨rfl,rfl⟩:=he
    simp at hn
   | cons c' p' =>
    simp only [List.cons_append,List.cons.injEq] at he
    obtain ⟨rfl,he⟩:=he
    rw [ih q p' q' (List.nodup_cons.1 hn).2 he]
 rcases List.mem_append.1 hxm with hm | hm
 ·have:=h1.out G Q hQ _ (key x y fun pre' post' hp=>by rw [← uniq y pre post pre' post' hnod hp]; exact hm) a w hk hw
  rwa [lU] at this
 ·rcases List.mem_cons.1 hm with rfl | hm
  ·exact absurd rfl hne'
  ·obtain ⟨p2,q2,rfl⟩:=List.append_of_mem hm
   have:=h2.out G Q hQ _ (key y x fun pre' post' hp=>by
    have e:pre++y::(p2++x::q2)=(pre++y::p2)++x::q2:=by simp
    rw [← uniq x (pre++y::p2) q2 pre' post' (by rw [← e]; exact hnod) (by rw [← e]; exact hp)]
    simp) a w hk hw
   rwa [lU] at this
def ordOK (L:List Oper) (c:List Nat):Bool :=
 Nat.beq c.length L.length&&(List.range L.length).all (fun i=>c.any (Nat.beq i))&&uF L (iE L []) c
theorem ordOK_sound {L:List Oper} {c:List Nat} (h:ordOK L c=true):j6 L (iE L []) c:=by
 simp only [ordOK,Bool.and_eq_true] at h
 obtain ⟨⟨_,h2⟩,h3⟩:=h
 obtain ⟨g1,g2,g3,g4⟩:=l6 h3
 refine ⟨g1,fun i=>⟨g2 i,fun hi=>?_⟩,g3,g4⟩
 have:=List.all_eq_true.1 h2 i (by simpa using hi)
 obtain ⟨x,hx,hb⟩:=List.any_eq_true.1 this
 have:=Nat.eq_of_beq_eq_true hb
 subst this
 exact hx
theorem ord_go {P:Program} {N:Nat} {L:List Oper} {f:Fr} {os:List Own} {fs:List bA} {K:jD} (c:List Nat) (hok:ordOK L c=true) (hdst:eO N L=true)
  (k:VCops P true L (g8 L c) f os fs K):OrdK P N L f os fs K:=by
 refine ⟨fun G Q hQ l hord a w hk hw=>?_⟩
 have hc:=ordOK_sound hok
 refine sim (f0:=f) hc hdst hQ _ (fun _=>False) (vd:=[]) (c':=c) (val:=fun _=>undef) (vf:=f) (os:=os) (fs:=fs) ?_ (fun i=>by simpa using (hord.all i).symm) hord.nodup (fun _ _ h=>h) (fun pre i post hp j hj=>.inr (hord.before pre i post hp j hj))
 exact ⟨rfl,fun _ h=>h.elim,fun _ h=>h.elim,hk.defers,hk.size,fun t v ht=>hk.holds t v (by
  rcases ht with ⟨_,_,h,_⟩ | h
  ·exact h.elim
  ·exact h.1),fun t v ht=>.inr ⟨ht,fun j o hj=>by simp at hj⟩,fun k o hk=>by simp at hk,hw,k⟩
def sz (x:Int) (e:Nat):Prop:=x.natAbs<18446744073709551616^e
theorem sz.len {x:Int} {e:Nat} (h:sz x e):(b9 x.natAbs).length≤e:=e8 h
theorem sz.mono {x:Int} {e e':Nat} (h:sz x e) (he:e≤e'):sz x e':=Nat.lt_of_lt_of_le h (Nat.pow_le_pow_right qE he)
theorem sz.mul {x y:Int} {a b:Nat} (h:sz x a) (h':sz y b):sz (x*y) (a+b):=by
 unfold sz at *
 rw [Int.natAbs_mul,Nat.pow_add]
 exact Nat.mul_lt_mul'' h h'
theorem sz.neg {x:Int} {a:Nat} (h:sz x a):sz (-x) a:=by unfold sz at *; rwa [Int.natAbs_neg]
theorem iG (e:Nat):sz 0 e:=Nat.pow_pos qE
theorem mN {x y:Int} {e:Nat} (h:sz x e) (h':sz y e):sz (x - y) (e+1):=by
 unfold sz at *
 rw [Nat.pow_succ]
 have:=Int.natAbs_sub_le x y
 omega
theorem AppendK.pre {P:Program} {ts:List TypeId} {ty:TypeId} {a b:Value} {os os':List Own} {fs fs':List bA} {K:cE} (hs:Seals os fs os' fs') (h:AppendK P ts ty a b os' fs' K):AppendK P ts ty a b os fs K :=
 ⟨fun G w hw=>h.out G w (hs G w hw)⟩
theorem load_own_one {P:Program} {t:TypeId} {os:List Own} {fs:List bA} {K:cE} [ht:lG P t] (pos i:Nat) {o:Own} (h:bQ os pos=some o) (hi:i<o.m) (j:Nat) {k:Nat} (hk:k=j*o.size)
  (hj:j<o.n i) {u:Value} (hd:o.e i j=.one u) (k':K u os fs):pB P t (jP (o.v i) k) os fs K:=by
 refine ⟨fun G w hw=>?_⟩
 have hov:=hw.own o (bU h) i hi
 obtain ⟨r,cap,hr⟩:=hov.row qN
 obtain ⟨cs,g1,g2,g3⟩:=hr.row.cellsAt hj
 have g1':RdC (Good G.A os w) w (.one u) cs:=hd ▸ g1
 have hp:oA (.one u) cs=u:=by simp [oA,g1'.1]
 rw [hr.ptr k]
 refine ⟨u,fs,fun w' hb=>dH ?_,k',hw⟩
 have:=lM (P:=P) (t:=t) (w:=w') (r:=r) (o:=k) (d:=.one u) ht g1' fun x hx=>by
  rw [hk]; exact g3 w' (hb.block r (hov.blk hr.blk).2) x hx
 rw [hp] at this
 exact this
theorem gR {P:Program} {t:TypeId} {v:Value} {size n:Nat} {e:Nat→Dat} {os:List Own} {fs:List bA} {K:cE} [ht:lG P t] (pos:Nat) (h:bQ os pos=some (bL v size n e)) (j:Nat)
  (hj:j<n) {u:Value} (hd:e j=.one u) (k':K u os fs):pB P t (jP v (j*size)) os fs K :=
 load_own_one (o:=bL v size n e) pos 0 h Nat.zero_lt_one j rfl hj hd k'
theorem oK {P:Program} {t:TypeId} {v:Value} {d:Dat} {os:List Own} {fs:List bA} {K:cE} (hr:Reads os fs v d) (k:∀ p,K p os ((p,.ptr d)::fs)):BoxK P t v os fs K :=
 ⟨Grw.sealed (aQ hr (K:=fun u os' fs'=>∃ os'' fs'',Seals os' fs' os'' fs''∧K u os'' fs'') fun p hp=>⟨_,_,Seals.box (os:=bL p d.cells 1 (fun _=>d)::os) 0 rfl hp rfl,k p⟩).out⟩
theorem CallK.pre {P:Program} {d:Bool} {fv:Value} {args:List Value} {os os':List Own} {fs fs':List bA} {K:cE} (hs:Seals os fs os' fs') (h:CallK P d fv args os' fs' K):CallK P d fv args os fs K :=
 ⟨fun G w hw=>h.out G w (hs G w hw),fun hd G w hw=>h.grw hd G w (hs G w hw)⟩
theorem zMulZ (v w:Value) (x y:Int) (a b:Nat) (hx:sz x a) (hy:sz y b) (ha:a≤137438953472) (hb:b≤137438953472) :
  aY Tryz.prog 153 [v,w] [(v,zd x),(w,zd y)] (fun r os fs=>os=[]∧fs=[(r,zd (x*y))]):=by
 have h:=zmul_meets v w (decide (x<0)) (decide (y<0)) (b9 x.natAbs) (b9 y.natAbs) (cK _) (cK _) (Nat.le_trans hx.len ha) (Nat.le_trans hy.len hb)
 rw [rJ,rJ] at h
 exact h
theorem zAddZ (v w:Value) (x y:Int) (a b:Nat) (hx:sz x a) (hy:sz y b) (ha:a≤137438953472) (hb:b≤137438953472) :
  aY Tryz.prog 99 [v,w] [(v,zd x),(w,zd y)] (fun r os fs=>os=[]∧fs=[(r,zd (x+y))]):=by
 have h:=zadd_meets v w (decide (x<0)) (decide (y<0)) (b9 x.natAbs) (b9 y.natAbs) (cK _) (cK _) (Nat.le_trans hx.len ha) (Nat.le_trans hy.len hb)
 rw [rJ,rJ] at h
 exact h
theorem tN (v w:Value) (x y:Int) (a b:Nat) (hx:sz x a) (hy:sz y b) (ha:a≤137438953472) (hb:b≤137438953472) :
  aY Tryz.prog 97 [v,w] [(v,zd x),(w,zd y)] (fun r os fs=>os=[]∧fs=[(r,zd (x - y))]):=by
 have h:=zsub_meets v w (decide (x<0)) (decide (y<0)) (b9 x.natAbs) (b9 y.natAbs) (cK _) (cK _) (Nat.le_trans hx.len ha) (Nat.le_trans hy.len hb)
 rw [rJ,rJ] at h
 exact h
theorem zNormZ (v:Value) (x:Int) (e:Nat) (hx:sz x e) (he:e≤137438953472) :
  aY Tryz.prog 102 [v] [(v,zd x)] (fun r os fs=>os=[]∧fs=[(r,zd x)]):=by
 have h:=znorm_meets v (decide (x<0)) (b9 x.natAbs) (cK _) (Nat.le_trans hx.len qN)
 rw [rJ] at h
 exact h
theorem sL (v:Value) (x:Int) (e:Nat) (hx:sz x e) (he:e≤137438953472) :
  aY Tryz.prog 100 [v] [(v,zd x)] (fun r os fs=>os=[]∧fs=[(r,zd (-x))]):=by
 have h:=zneg_meets v (decide (x<0)) (b9 x.natAbs) (cK _) (Nat.le_trans hx.len he)
 rw [rJ] at h
 exact h
theorem mY (v:Value) (x:Int) (e:Nat) (hx:sz x e) (he:e≤137438953472) :
  aY Tryz.prog 52 [v] [(v,zd x)] (fun r os fs=>os=[]∧fs=[]∧r=.int .i64 x.sign):=by
 have h:=oW v (decide (x<0)) (b9 x.natAbs) (cK _) (Nat.le_trans hx.len he)
 rw [rJ] at h
 exact h
theorem sS (v w:Value) (x y:Int) (a b:Nat) (hx:sz x a) (hy:sz y b) (ha:a≤137438953472) (hb:b≤137438953472) (h0:y≠0) :
  aY Tryz.prog 140 [v,w] [(v,zd x),(w,zd y)] (fun r os fs=>os=[]∧∃ q m,r=.tuple #[q,m,.bool true]∧fs=[(q,zd (x/y)),(m,zd (x%y))]):=by
 have h:=zdivmod_meets v w (decide (x<0)) (decide (y<0)) (b9 x.natAbs) (b9 y.natAbs) (cK _) (cK _) (Nat.le_trans hx.len ha) (Nat.le_trans hy.len hb) (by rw [dN]; omega)
 rw [rJ,rJ] at h
 exact h
theorem m6 {x y:Int} {e:Nat} (h:sz x e):sz (x/y) e:=Nat.lt_of_le_of_lt (Int.natAbs_ediv_le_natAbs x y) h
theorem cM {P:Program} {d:Bool} {fv:Value} {args:List Value} {os os':List Own} {fs fs':List bA} {K:cE} (hs:Seals os fs os' fs') (h:CallK P d fv args os' fs' K):CallK P d fv args os fs K:=CallK.pre hs h
theorem info_n:(Tryz.prog.info? 3).map (fun i=>(i.zero,i.size,i.bytes))=some (some (.int .i64 0),1,8):=by kernel_rfl
instance tzN:iD Tryz.prog 3 (.one (.int .i64 0)):=mQ info_n fun _ _=>⟨rfl,rfl⟩
theorem draw_join {P:Program} {N id:Nat} {L:List Oper} {f:Fr} {os:List Own} {fs:List bA} {K:jD} {X:Type} (I:X→Fr×List Own×List bA) (ok:X→Prop)
  (h:DrawK P N id L f os fs fun f os fs=>AtK I ok f os fs fun _=>True) (k:∀ x,ok x→K (I x).1 (I x).2.1 (I x).2.2):DrawK P N id L f os fs K:=by
 refine ⟨fun G Q hQ r a w hk hw=>?_⟩
 let Q':iX:=fun e=>match e with
  | .normal=>fun f os fs=>AtK I ok f os fs fun _=>True
  | e=>Q e
 refine wpIn_mono (h.out G Q' rfl r a w hk hw) ?_
 rintro e a' w' ⟨G',hx,f',os',fs',hk',hw',hq⟩
 cases e with
 | normal =>
  obtain ⟨⟨x,hx',_,g1,g2⟩⟩:=hq
  exact ⟨G',hx,_,_,_,hk'.sub g1,g2 G' w' hw',by rw [hQ]; exact k x hx'⟩
 | exit id=>exact ⟨G',hx,f',os',fs',hk',hw',hq⟩
 | goto l=>exact ⟨G',hx,f',os',fs',hk',hw',hq⟩
 | ret=>exact ⟨G',hx,f',os',fs',hk',hw',hq⟩
 | panic ch=>exact ⟨G',hx,f',os',fs',hk',hw',hq⟩
 | outgrown=>exact ⟨G',hx,f',os',fs',hk',hw',hq⟩
instance (x:Int) (e:Nat):Decidable (sz x e):=inferInstanceAs (Decidable (_<_))
theorem load_elem' {P:Program} {t:TypeId} {v:Value} {size n:Nat} {e:Nat→Dat} {os:List Own} {fs:List bA} {K:cE} (pos:Nat) (h:bQ os pos=some (bL v size n e)) (j:Nat)
  (hj:j<n) {d:Dat} (hd:e j=d) (ht:gX P t d) (k':∀ u,K u os ((u,d)::fs)):pB P t (jP v (j*size)) os fs K:=by
 subst hd
 exact load_elem pos h j hj ht k'
theorem cmpN_range (a b:Nat) : -1≤cmpN a b∧cmpN a b≤1∧(cmpN a b=0↔a=b):=by
 unfold cmpN
 split
 ·omega
 ·split <;> omega
theorem iI {x:Int} (h:x<0):x.sign = -1:=Int.sign_eq_neg_one_of_neg h
theorem iH {x:Int} (h:0<x):x.sign=1:=Int.sign_eq_one_of_pos h
theorem cmp_val (x y:Int):(x.sign<y.sign→(x - y).sign = -1)∧(y.sign<x.sign→(x - y).sign=1)∧(x.sign=y.sign→x.sign*cmpN x.natAbs y.natAbs=(x - y).sign):=by
 rcases Int.lt_trichotomy x 0 with hx | hx | hx <;> rcases Int.lt_trichotomy y 0 with hy | hy | hy
 ·rw [iI hx,iI hy]
  refine ⟨fun h=>by omega,fun h=>by omega,fun _=>?_⟩
  unfold cmpN
  by_cases h1:x.natAbs<y.natAbs
  ·rw [if_pos h1,iH (show 0<x - y by omega)]; rfl
  ·rw [if_neg h1]
   by_cases h2:y.natAbs<x.natAbs
   ·rw [if_pos h2,iI (show x - y<0 by omega)]; rfl
   ·rw [if_neg h2,show x - y=0 by omega]; rfl
 ·rw [iI hx,hy]; exact ⟨fun _=>iI qN,fun h=>by simp at h,fun h=>by simp at h⟩
 ·rw [iI hx,iH hy]; exact ⟨fun _=>iI qN,fun h=>by omega,fun h=>by omega⟩
 ·rw [hx,iI hy]; exact ⟨fun h=>by simp at h,fun _=>iH qN,fun h=>by simp at h⟩
 ·rw [hx,hy]; exact ⟨fun h=>by omega,fun h=>by omega,fun _=>by simp⟩
 ·rw [hx,iH hy]; exact ⟨fun _=>iI qN,fun h=>by simp at h,fun h=>by simp at h⟩
 ·rw [iH hx,iI hy]; exact ⟨fun h=>by omega,fun _=>iH qN,fun h=>by omega⟩
 ·rw [iH hx,hy]; exact ⟨fun h=>by simp at h,fun _=>iH qN,fun h=>by simp at h⟩
 ·rw [iH hx,iH hy]
  refine ⟨fun h=>by omega,fun h=>by omega,fun _=>?_⟩
  unfold cmpN
  by_cases h1:x.natAbs<y.natAbs
  ·rw [if_pos h1,iI (show x - y<0 by omega)]; rfl
  ·rw [if_neg h1]
   by_cases h2:y.natAbs<x.natAbs
   ·rw [if_pos h2,iH (show 0<x - y by omega)]; rfl
   ·rw [if_neg h2,show x - y=0 by omega]; rfl
theorem zCmpS (v w:Value) (x y:Bool×List Nat) (ha:Lim x.2) (hb:Lim y.2) (la:x.2.length≤137438953472) (lb:y.2.length≤137438953472) :
  aY Tryz.prog 28 [v,w] [(v,J x),(w,J y)] (fun r os fs=>os=[]∧fs=[]∧r=.int .i64 (jv x - jv y).sign):=by
 obtain ⟨s,a⟩:=x
 obtain ⟨t,b⟩:=y
 have hc:=cmpN_range (nv a) (nv b)
 have hx:(iv s a).natAbs=nv a:=iv_abs s a
 have hy:(iv t b).natAbs=nv b:=iv_abs t b
 obtain ⟨k1,k2,k3⟩:=cmp_val (iv s a) (iv t b)
 rw [hx,hy] at k3
 have hsg:∀ x:Int, -1≤x.sign∧x.sign≤1:=fun x=>by
  rcases Int.lt_trichotomy x 0 with h | h | h
  ·rw [Int.sign_eq_neg_one_of_neg h]; omega
  ·rw [h]; simp
  ·rw [Int.sign_eq_one_of_pos h]; omega
 have h1:=hsg (iv s a)
 have h2:=hsg (iv t b)
 have hp : -1≤(iv s a).sign*cmpN (nv a) (nv b)∧(iv s a).sign*cmpN (nv a) (nv b)≤1:=by
  have:(iv s a).sign = -1∨(iv s a).sign=0∨(iv s a).sign=1:=by omega
  rcases this with h | h | h <;> rw [h] <;> omega
 show aY Tryz.prog 28 [v,w] [(v,I s a),(w,I t b)] (fun r os fs=>os=[]∧fs=[]∧r=.int .i64 (iv s a - iv t b).sign)
 refine mV Tryz.func28 ?_
 refine aQ (aA (d:=I s a) qM) fun p hp'=>?_
 refine aQ (aA (d:=I t b) qM) fun q hq'=>?_
 refine bC [0,2,1,3,4,5] [0,1,2,3,4,5] qK qK ?_
 refine aE (d:=I s a) 1 rfl hp' rfl (eN _ _) fun y1=>?_
 refine aE (d:=I t b) 0 rfl hq' rfl (eN _ _) fun y2=>?_
 refine cH (oW y1 s a ha la) ?_
 refine cH (oW y2 t b hb lb) ?_
 refine aO _ rfl (fun hlt=>?_) (fun hlt=>?_)
 ·rw [k1 hlt]
  exact fin ⟨rfl,rfl,rfl⟩ (dS (dS (bO _ _)))
 ·refine aO _ rfl (fun hgt=>?_) (fun hgt=>?_)
  ·rw [k2 qN]
   exact fin ⟨rfl,rfl,rfl⟩ (dS (dS (bO _ _)))
  ·rw [← k3 qN]
   refine aF 1 rfl hp' ?_
   refine aK 1 rfl (aC (aG _)) (gD _) fun u1=>?_
   refine aF 0 rfl hq' ?_
   refine aK 0 rfl (aC (aG _)) (gD _) fun u2=>?_
   refine cH (qA u1 u2 a b ha hb) ?_
   refine ar rfl qI ?_
   exact fin ⟨rfl,rfl,rfl⟩ (dS (dS (bO _ _)))
theorem mL (v w:Value) (x y:Int) (a:Nat) (hx:sz x a) (hy:sz y a) (ha:a≤137438953472) :
  aY Tryz.prog 28 [v,w] [(v,zd x),(w,zd y)] (fun r os fs=>os=[]∧fs=[]∧r=.int .i64 (x - y).sign):=by
 have h:=zCmpS v w (cn x) (cn y) (cK _) (cK _) (Nat.le_trans hx.len ha) (Nat.le_trans hy.len ha)
 rw [jv_cn,jv_cn] at h
 exact h
class TMap (P:Program) (t:TypeId) (k e:outParam TypeId):Prop where
 und:P.underlying t=some (.map k e)
 keyed:Maps.Keyed P k
def rD (v:Value) (n:Nat) (k:Nat→Value) (d:Nat→Dat):Own:=bL v 0 0 (fun _=>.mp n k d)
def isKey (P:Program) (t:TypeId) (v:Value):Prop:=∃ l,keyOf P t v=some l
theorem map_make {P:Program} {t:TypeId} {os:List Own} {fs:List bA} {K:cE} (ks:Nat→Value) (d:Nat→Dat)
  (k:∀ v,(∃ r,v=.map (some r))→K v (rD v 0 ks d::os) fs):MapMakeK P t os fs K:=by
 refine ⟨fun G w hw=>?_⟩
 have hrun:(val (Instr.makeMap t none)).run P w=.ok (.value (.map (some w.heap.size))) (w.alloc (.map #[] 0)):=by
  simp [val,Instr.makeMap,newObj]
  rfl
 rw [hrun]
 have hb:Below w.heap.size w (w.alloc (.map #[] 0)):=(Below.refl _ _).alloc (Nat.le_refl _) _
 have hnew:(w.alloc (.map #[] 0)).heap[w.heap.size]? = some (.map #[] 0):=by show (w.heap.push _)[w.heap.size]? = _; simp
 exact ⟨hb,_,fs,k _ ⟨_,rfl⟩,hw.alloc _ (.map #[] 0) _ hb rfl (.inr rfl) (.inr (.inr (.inr ⟨rfl,rfl,0,ks,d,rfl,.inl ⟨_, #[],0,rfl,hw.size,hnew,⟨by simp,by simp⟩,Nat.zero_le _,rfl,fun i hi=>absurd hi (Nat.not_lt_zero _)⟩⟩)))⟩
theorem Holds.step2 {G:Ctx} {os:List Own} {fs:List bA} {w w':World} (h:Holds G os fs w) {pos:Nat} {o o':Own} (hp:bQ os pos=some o)
  (ho:w'.os=w.os) (htp:w'.tape=w.tape) (hou:w'.output=w.output) (hsz:w.heap.size≤w'.heap.size)
  (hblk:∀ k,k<w.heap.size→¬ o.has k→w'.heap[k]? = w.heap[k]?)
  (hnew:∀ b,o'.has b→o.has b∨(w.heap.size≤b))
  (hinj:∀ i j b,i<o'.m→j<o'.m→lR (o'.v i)=some b→lR (o'.v j)=some b→i=j)
  (hown:lF (Good G.A os w) w w'→(∀ b,Good G.A os w b→Good G.A (setOwn os pos o') w' b)→∀ i,i<o'.m→OwnVal (Good G.A (setOwn os pos o') w') G.B w' (o'.v i) o'.size (o'.n i) (o'.e i)) :
  Holds G (setOwn os pos o') fs w':=by
 have hmem:∀ b,o.has b→eW os b:=fun b hb=>dY.2 ⟨o,bU hp,hb⟩
 have hg:∀ b,Good G.A os w b→Good G.A (setOwn os pos o') w' b:=fun b ⟨g1,g2,g3⟩=>⟨Nat.lt_of_lt_of_le g1 hsz,g2,fun hb=>by
  rcases iA hb with hb | hb
  ·rcases hnew b hb with hb | hb
   ·exact g3 (hmem b hb)
   ·omega
  ·exact g3 hb⟩
 have ha:lF (Good G.A os w) w w':=fun b hb=>hblk b hb.1 fun h'=>hb.2.2 (hmem b h')
 exact h.step hp ho htp hou hsz hblk hnew hinj fun _=>hown ha hg
theorem Ents.get {S:Nat→Prop} {w:World} {es:Array MapEntry} {n:Nat} {k:Nat→Value} {e:Nat→Dat} (h:Ents S w es n k e) {x:MapEntry} {i:Nat} (hx:es.toList[i]? = some x) :
  i<n∧x.key=k i∧∃ cs,RdC S w (e i) cs∧x.val=oA (e i) cs:=by
 have hx':es[i]? = some x:=by simpa using hx
 have hi:i<n:=by have:=(Array.getElem?_eq_some_iff.1 hx').1; have:=h.1; omega
 obtain ⟨y,h1,h2⟩:=h.2 i hi
 rw [hx'] at h1
 obtain rfl:=Option.some.inj h1
 exact ⟨hi,h2⟩
theorem Ents.keys {P:Program} {t:TypeId} {S:Nat→Prop} {w:World} {es:Array MapEntry} {n:Nat} {k:Nat→Value} {e:Nat→Dat} (h:Ents S w es n k e) (hk:∀ i,i<n→isKey P t (k i)) :
  ∀ x,x∈es.toList→∃ l,keyOf P t x.key=some l:=fun x hx=>by
 obtain ⟨i,hi⟩:=List.getElem?_of_mem hx
 obtain ⟨h1,h2,_⟩:=h.get hi
 rw [h2]
 exact hk i h1
theorem Stp.push {es:Array MapEntry} {clock:Nat} (h:Stp es clock) (key val:Value):Stp (es.push { key,val,born:=clock }) (clock+1):=by
 refine ⟨fun x hx=>?_,?_⟩
 ·simp only [Array.toList_push,List.mem_append,List.mem_singleton] at hx
  rcases hx with hx | rfl
  ·exact Nat.lt_succ_of_lt (h.1 x hx)
  ·exact Nat.lt_succ_self _
 ·simp only [Array.toList_push,List.map_append,List.map_cons,List.map_nil]
  refine List.nodup_append.2 ⟨h.2,by simp,fun a ha b hb=>?_⟩
  simp only [List.mem_singleton] at hb
  obtain ⟨x,hx,rfl⟩:=List.mem_map.1 ha
  have:=h.1 x hx
  omega
def mpu {α:Type} (j:Nat) (x:α) (f:Nat→α) (i:Nat):α:=if i=j then x else f i
theorem mpu_same {α:Type} (j:Nat) (x:α) (f:Nat→α):mpu j x f j=x:=by simp [mpu]
theorem uM {α:Type} {j:Nat} (x:α) (f:Nat→α) {i:Nat} (h:i≠j):mpu j x f i=f i:=by simp [mpu,h]
theorem map_new {P:Program} {t k e:TypeId} [ht:TMap P t k e] {v key x:Value} {n:Nat} {ks:Nat→Value} {d:Nat→Dat} {dx:Dat} {os:List Own} {fs:List bA} {K:cE} (pos:Nat) (h:bQ os pos=some (rD v n ks d))
  (hv:∃ r,v=.map (some r)) (hks:∀ i,i<n→isKey P k (ks i)) (hkey:isKey P k key) (hno:∀ i,i<n→ks i≠key) (hn:n<maxLen) (hx:Knw os fs x dx)
  (kk:K undef (setOwn os pos (rD v (n+1) (mpu n key ks) (mpu n dx d))) fs):MapPutK P t v key x os fs K:=by
 refine ⟨fun G w hw=>?_⟩
 obtain ⟨cs,hx1,rfl⟩:=hx G w hw
 obtain ⟨r,rfl⟩:=hv
 rcases hw.own _ (bU h) 0 Nat.zero_lt_one with ⟨h1,_⟩ | ⟨_,_,h1,_⟩ | ⟨_,h1,_⟩ | ⟨_,_,n',k',d',he,⟨r',es,clock,h1,h2,h3,h4,h5,h6⟩ | ⟨_,_,_,_,_,_,_,h1,_⟩⟩
 ·simp [rD,bL] at h1
 ·simp [rD,bL] at h1
 ·simp [rD,bL] at h1
 ·simp only [rD,bL,Value.map.injEq,Option.some.injEq] at h1
  subst h1
  simp only [rD,bL,Dat.mp.injEq] at he
  obtain ⟨rfl,rfl,rfl⟩:=he
  obtain ⟨l,hl⟩:=hkey
  have hfind:(Instr.findKey k key es.toList).run P w=.ok none w:=by
   rcases ht.keyed.find w hl es.toList (h6.keys hks) with ⟨g1,_⟩ | ⟨j,e0,g1,g2,g3⟩
   ·exact g1
   ·obtain ⟨q1,q2,_⟩:=h6.get g2
    exact absurd (q2.symm.trans g3) (hno j q1)
  have hrun:(Instr.mapUpdate t (.map (some r)) key (oA dx cs)).run P w=.ok () (ChangeMaps.setBlock w r (.map (es.push ⟨key,oA dx cs,clock⟩) (clock+1))):=by
   simp [Instr.mapUpdate,run_underlying ht.und,MapKept.run_getObj_map h3,ht.keyed.check w false hl,hfind,MapKept.run_setObj_map _ h3,Result.andThen,ChangeMaps.setBlock]
  rw [tS hrun]
  refine ⟨_,fs,kk,hw.step2 h rfl rfl rfl (by simp [ChangeMaps.setBlock]) (fun b _ hb=>?_) (fun b hb=>.inl ?_) (fun i j b hi hj _ _=>by simp only [rD,bL] at hi hj; omega) fun ha hg i hi=>?_⟩
  ·exact (MapKept.heap_set h3).2 b fun e=>hb ⟨0,Nat.zero_lt_one,by rw [e]; rfl⟩
  ·obtain ⟨i,_,hb⟩:=hb; exact ⟨0,Nat.zero_lt_one,hb⟩
  ·have hes:=h6.mono ha hg
   have hdx:=hx1.mono ha hg
   refine .inr (.inr (.inr ⟨rfl,rfl,n+1,_,_,rfl,.inl ⟨r,_,_,rfl,h2,(MapKept.heap_set h3).1,h4.push _ _,by omega,by simp [h6.1],fun y hy=>?_⟩⟩))
   by_cases hyn:y=n
   ·subst hyn
    rw [mpu_same,mpu_same]
    exact ⟨⟨key,oA dx cs,clock⟩,by rw [← h6.1]; simp,rfl,cs,hdx,rfl⟩
   ·obtain ⟨u,u1,u2,u3⟩:=hes.2 y qN
    rw [uM _ _ hyn,uM _ _ hyn]
    refine ⟨u,?_,u2,u3⟩
    rw [Array.getElem?_push,if_neg (by rw [h6.1]; omega)]
    exact u1
 ·simp [rD,bL] at h1
theorem Stp.modify {es:Array MapEntry} {clock:Nat} (h:Stp es clock) (j:Nat) (key val:Value):Stp (es.modify j fun e=>{ e with key:=key,val:=val }) clock:=by
 have hm:(es.modify j fun e=>{ e with key:=key,val:=val }).toList.map (·.born)=es.toList.map (·.born):=by
  refine List.ext_getElem? fun i=>?_
  simp only [List.getElem?_map,Array.toList_modify]
  rw [List.getElem?_modify]
  by_cases hij:j=i
  ·simp only [hij,if_true]; cases es.toList[i]? <;> rfl
  ·simp [hij]
 refine ⟨fun x hx=>?_,by rw [hm]; exact h.2⟩
 have:x.born∈es.toList.map (·.born):=by rw [← hm]; exact List.mem_map.2 ⟨x,hx,rfl⟩
 obtain ⟨y,hy,hyb⟩:=List.mem_map.1 this
 rw [← hyb]
 exact h.1 y hy
theorem map_set {P:Program} {t k e:TypeId} [ht:TMap P t k e] {v key x:Value} {n:Nat} {ks:Nat→Value} {d:Nat→Dat} {dx:Dat} {os:List Own} {fs:List bA} {K:cE} (pos:Nat) (h:bQ os pos=some (rD v n ks d))
  (hv:∃ r,v=.map (some r)) (hks:∀ i,i<n→isKey P k (ks i)) (hkey:isKey P k key) (j:Nat) (hj:j<n) (hjk:ks j=key) (hone:∀ i,i<n→ks i=key→i=j) (hx:Knw os fs x dx)
  (kk:K undef (setOwn os pos (rD v n ks (mpu j dx d))) fs):MapPutK P t v key x os fs K:=by
 refine ⟨fun G w hw=>?_⟩
 obtain ⟨cs,hx1,rfl⟩:=hx G w hw
 obtain ⟨r,rfl⟩:=hv
 rcases hw.own _ (bU h) 0 Nat.zero_lt_one with ⟨h1,_⟩ | ⟨_,_,h1,_⟩ | ⟨_,h1,_⟩ | ⟨_,_,n',k',d',he,⟨r',es,clock,h1,h2,h3,h4,h5,h6⟩ | ⟨_,_,_,_,_,_,_,h1,_⟩⟩
 ·simp [rD,bL] at h1
 ·simp [rD,bL] at h1
 ·simp [rD,bL] at h1
 ·simp only [rD,bL,Value.map.injEq,Option.some.injEq] at h1
  subst h1
  simp only [rD,bL,Dat.mp.injEq] at he
  obtain ⟨rfl,rfl,rfl⟩:=he
  obtain ⟨l,hl⟩:=hkey
  obtain ⟨e0,hfind,g2,g3⟩:∃ e0,(Instr.findKey k key es.toList).run P w=.ok (some (j,e0.val)) w∧es.toList[j]? = some e0∧e0.key=key:=by
   rcases ht.keyed.find w hl es.toList (h6.keys hks) with ⟨_,g2⟩ | ⟨j',e0,g1,g2,g3⟩
   ·obtain ⟨u,u1,u2,_⟩:=h6.2 j hj
    exact absurd (u2.trans hjk) (g2 u (List.mem_of_getElem? (by simpa using u1)))
   ·obtain ⟨q1,q2,_⟩:=h6.get g2
    obtain rfl:=hone j' q1 (q2.symm.trans g3)
    exact ⟨e0,g1,g2,g3⟩
  have hes0:es[j]? = some e0:=by simpa using g2
  have hrun:(Instr.mapUpdate t (.map (some r)) key (oA dx cs)).run P w=.ok () (ChangeMaps.setBlock w r (.map (es.modify j fun e=>{ e with key:=key,val:=oA dx cs }) clock)):=by
   simp [Instr.mapUpdate,run_underlying ht.und,MapKept.run_getObj_map h3,ht.keyed.check w false hl,hfind,hes0,g3,ht.keyed.stays w hl,MapKept.run_setObj_map _ h3,Result.andThen,ChangeMaps.setBlock]
  rw [tS hrun]
  refine ⟨_,fs,kk,hw.step2 h rfl rfl rfl (by simp [ChangeMaps.setBlock]) (fun b _ hb=>?_) (fun b hb=>.inl ?_) (fun i j b hi hj _ _=>by simp only [rD,bL] at hi hj; omega) fun ha hg i hi=>?_⟩
  ·exact (MapKept.heap_set h3).2 b fun e=>hb ⟨0,Nat.zero_lt_one,by rw [e]; rfl⟩
  ·obtain ⟨i,_,hb⟩:=hb; exact ⟨0,Nat.zero_lt_one,hb⟩
  ·have hes:=h6.mono ha hg
   have hdx:=hx1.mono ha hg
   refine .inr (.inr (.inr ⟨rfl,rfl,n,_,_,rfl,.inl ⟨r,_,_,rfl,h2,(MapKept.heap_set h3).1,h4.modify _ _ _,h5,by simp [h6.1],fun y hy=>?_⟩⟩))
   obtain ⟨u,u1,u2,u3⟩:=hes.2 y hy
   by_cases hyn:y=j
   ·subst hyn
    rw [mpu_same]
    exact ⟨{ u with key:=key,val:=oA dx cs },by rw [Array.getElem?_modify,if_pos rfl,u1]; rfl,hjk.symm,cs,hdx,rfl⟩
   ·rw [uM _ _ hyn]
    refine ⟨u,?_,u2,u3⟩
    rw [Array.getElem?_modify,if_neg (fun h=>hyn h.symm)]
    exact u1
 ·simp [rD,bL] at h1
class TZeroV (P:Program) (t:TypeId) (d:outParam Dat):Prop where
 zero:∃ i z,P.info? t=some i∧i.zero=some z∧(∀ S w,Rd S w z d)
theorem zShlJ (v:Value) (x:Bool×List Nat) (n:Int) (hx:Lim x.2) (lx:x.2.length≤1099511627776) :
  aY Tryz.prog 94 [v,.int .i64 n] [(v,J x)] (fun r os fs=>os=[]∧fs=[(r,zd (jv x*2^far n))]):=by
 have e:(if x.1 then -((nv x.2*2^far n:Nat):Int) else ((nv x.2*2^far n:Nat):Int))=jv x*2^far n:=by
  unfold jv iv
  cases x.1 <;> simp [Int.neg_mul]
 have hm:=fun u=>uR u x.1 (nv x.2*2^far n)
 rw [e] at hm
 refine mV Tryz.func94 ?_
 refine aQ (aA (d:=I x.1 x.2) qM) fun p hp=>?_
 refine aI (d:=I false []) fun o ho=>?_
 refine bC [0,1,2,3,4,5,6,7] [0,1,2,3,4,5,6,7] qK qK ?_
 refine aF 1 rfl hp ?_
 refine aB 1 rfl (aJ (aG _)) ?_
 refine aF 1 rfl hp ?_
 refine aK 1 rfl (aC (aG _)) (gD _) fun u1=>?_
 refine cG (pJ u1 x.2 n hx lx) fun u2=>?_
 refine cG (hm u2) fun u3=>?_
 refine bY (d:=zd (jv x*2^far n)) 0 rfl ho rfl qK ?_ ?_; exact aA qM
 refine aE (d:=zd (jv x*2^far n)) 0 rfl ho rfl (eN _ _) fun r=>?_
 exact fin ⟨rfl,rfl⟩ (dS (dS (aD (fs':=[(r,zd (jv x*2^far n))]) qS)))
theorem mZ (v:Value) (x:Int) (n:Int) (a:Nat) (hx:sz x a) (ha:a≤1099511627776) :
  aY Tryz.prog 94 [v,.int .i64 n] [(v,zd x)] (fun r os fs=>os=[]∧fs=[(r,zd (x*2^far n))]):=by
 have h:=zShlJ v (cn x) n (cK _) (Nat.le_trans hx.len ha)
 rw [jv_cn] at h
 exact h
theorem zd_pos {y:Int} (h:0<y):zd y=I false (b9 y.natAbs):=by
 rw [zd_I,decide_eq_false qN]
theorem zDown_meets (v w:Value) (x y:Int) (a b:Nat) (hx:sz x a) (hy:sz y b) (ha:a≤137438953472) (hb:b≤137438953472) (h0:0<y) :
  aY Tryz.prog 178 [v,w] [(v,zd x),(w,zd y)] (fun r os fs=>os=[]∧∃ q,r=.tuple #[q,.bool true]∧fs=[(q,zd (x/y))]):=by
 have hc:=fun u1 u2=>sS u1 u2 x y a b hx hy ha hb qN
 have e:=zd_pos h0
 refine mV Tryz.func178 ?_
 refine aQ (aA (d:=zd x) qM) fun p hp=>?_
 refine aQ (aA (d:=zd y) qM) fun q hq=>?_
 refine aI (d:=I false []) fun o ho=>?_
 refine aF 1 rfl hq ?_
 refine aB (u:=.bool false) 1 rfl (show Part 0 (zd y) (.one (.bool false)) by rw [e]; exact aJ (aG _)) ?_
 refine aE (d:=zd x) 2 rfl hp rfl (eN _ _) fun u1=>?_
 refine aE (d:=zd y) 1 rfl hq rfl (eN _ _) fun u2=>?_
 refine cF (hc u1 u2) ?_
 rintro _ _ _ ⟨rfl,z,m,rfl,rfl⟩
 refine aI (d:=I false []) fun c1 h1=>?_
 refine aI (d:=I false []) fun c2 h2=>?_
 refine bY (d:=zd (x/y)) 1 rfl h1 rfl qK ?_ ?_; exact aA qM
 refine bY (d:=zd (x%y)) 0 rfl h2 rfl qK ?_ ?_; exact aA qM
 refine aE (d:=zd (x/y)) 1 rfl h1 rfl (eN _ _) fun u3=>?_
 refine bY (d:=zd (x/y)) 2 rfl ho rfl qK ?_ ?_; exact aA qM
 refine aE (d:=zd (x/y)) 2 rfl ho rfl (eN _ _) fun r=>?_
 exact fin ⟨rfl,r,rfl,rfl⟩ (dS (dS (dS (dS (dS (aD (fs':=[(r,zd (x/y))]) qS))))))
theorem dR (x:Int) (h:x.natAbs<18446744073709551616):sz x 1:=by unfold sz; simpa using h
theorem oper_wp_mono2 {P:Program} {o:Oper} {a:Act} {w:World} {K K':Act→World→Prop} {Q Q':Exit→Act→World→Prop} (h:∀ a w,K a w→K' a w) (hE:∀ e a w,e≠.normal→Q e a w→Q' e a w)
  (hh:Oper.wpA P o a w K Q):Oper.wpA P o a w K' Q':=by
 unfold Oper.wpA at *
 generalize (execOp a.eval o).run P w=r at *
 match r,hh with
 | .ok (.value v) w',hh=>exact h _ _ hh
 | .ok .skip w',hh=>exact h _ _ hh
 | .ok (.enter g args) w',hh=>exact Calls.mono hh fun e w'' he=>by cases e <;> first | exact h _ _ he | exact hE _ _ _ qP he | exact he
 | .ok (.round l g tmps assign body) w',hh=>exact RoundIn.mono hh fun e w'' he=>by cases e <;> first | exact h _ _ he | exact he
theorem kS {P:Program} {ops:Array Oper} {Q Q':Exit→Act→World→Prop} (hq:∀ e a w,Q e a w→Q' e a w):∀ (l:List Oper) (a:Act) (w:World),iY P ops Q l a w→iY P ops Q' l a w
 | [],_,_,h=>hq _ _ _ h
 | o::r,a,w,h=>by
  unfold iY at h ⊢
  split at h
  ·rename_i hw
   rw [if_pos hw]
   exact h.imp (oper_wp_mono2 (fun a w h=>kS hq r a w h) fun e a w _ h=>hq e a w h) fun h=>h.1.elim
  ·rename_i hw
   rw [if_neg hw]
   exact kS hq r _ w h
def stepB (L:List Oper) (j i:Nat):Bool :=
 match oC L i with
 | some o=>o.after.toList.any fun e=>Nat.beq e.on j&&Region.binds .any e
 | none=>false
theorem t6 {L:List Oper} {j i:Nat} (h:stepB L j i=true):gB .any L j i:=by
 unfold stepB at h
 rw [f9] at h
 cases ho:L[i]? with
 | none=>rw [ho] at h; simp at h
 | some o =>
  rw [ho] at h
  obtain ⟨e,h1,h2⟩:=List.any_eq_true.1 h
  rw [Bool.and_eq_true] at h2
  exact ⟨o,ho,e,h1,h2.2,Nat.eq_of_beq_eq_true h2.1⟩
theorem k7 {P:Program} {N:Nat} {L:List Oper} {f:Fr} {os:List Own} {fs:List bA} {K:jD} (x m y:Nat) (h:(stepB L x m&&stepB L m y)=true)
  (k:OrdK P N (addE x y L) f os fs K):OrdK P N L f os fs K:=by
 rw [Bool.and_eq_true] at h
 have b1:=t6 h.1
 have b2:=t6 h.2
 refine ⟨fun G Q hQ l hl a w hk hw=>?_⟩
 have hxy:∀ pre post,l=pre++y::post→x∈pre:=fun pre post hp=>by
  obtain ⟨p1,p2,rfl⟩:=List.append_of_mem (hl.before pre y post hp m b2)
  exact List.mem_append_left _ (hl.before p1 m (p2++y::post) (by rw [hp]; simp) x b1)
 have hord:iS .any (addE x y L) l:=by
  refine ⟨hl.nodup,fun i=>by rw [addE_len]; exact hl.all i,fun pre i post hp j ⟨o,h1,e,h2,h3,h4⟩=>?_⟩
  rw [qU] at h1
  by_cases hik:i=y
  ·rw [if_pos hik] at h1
   cases hL:L[i]? with
   | none=>simp [hL] at h1
   | some o' =>
    simp only [hL,Option.map_some,Option.some.injEq] at h1
    subst h1
    simp only [Array.toList_push,List.mem_append,List.mem_singleton] at h2
    rcases h2 with h2 | h2
    ·exact hl.before pre i post hp j ⟨o',hL,e,h2,h3,h4⟩
    ·subst h2
     simp only at h4
     subst h4
     exact hxy pre post (by rw [hp,hik])
  ·rw [if_neg hik] at h1
   exact hl.before pre i post hp j ⟨o,h1,e,h2,h3,h4⟩
 have:=k.out G Q hQ l hord a w hk hw
 rwa [lU] at this
theorem oB {os os':List Own} (h:os.Perm os') (b:Nat):eW os b↔eW os' b:=by
 rw [dY,dY]
 exact ⟨fun ⟨o,h1,h2⟩=>⟨o,h.mem_iff.1 h1,h2⟩,fun ⟨o,h1,h2⟩=>⟨o,h.mem_iff.2 h1,h2⟩⟩
theorem Apart.perm {os os':List Own} (h:os.Perm os'):Apart os→Apart os':=by
 induction h with
 | nil=>exact id
 | cons x p ih=>exact fun ⟨h1,h2,h3⟩=>⟨h1,fun b hb ho=>h2 b hb ((oB p b).2 ho),ih h3⟩
 | swap x y l=>exact fun ⟨h1,h2,h3,h4,h5⟩=>⟨h3,fun b hb ho=>by
   rcases ho with ho | ho
   ·exact h2 b ho (.inl hb)
   ·exact h4 b hb ho,h1,fun b hb ho=>h2 b hb (.inr ho),h5⟩
 | trans _ _ ih1 ih2=>exact fun h=>ih2 (ih1 h)
theorem Seals.perm {os os':List Own} {fs:List bA} (h:os.Perm os'):Seals os fs os' fs:=by
 intro G w hw
 have good:∀ b,Good G.A os w b→Good G.A os' w b:=fun b ⟨g1,g2,g3⟩=>⟨g1,g2,fun hb=>g3 ((oB h b).2 hb)⟩
 have agree:lF (Good G.A os w) w w:=fun _ _=>rfl
 exact ⟨hw.lowS (Nat.le_refl _) (fun b hb=>.inl ((oB h b).2 hb)),hw.size,hw.below,hw.apart.perm h,fun o ho i hi=>(hw.own o (h.mem_iff.2 ho) i hi).mono agree good (fun _ _=>rfl),hw.facts.mono agree good,hw.keptS (Below.refl _ _) fun b hb=>.inl ((oB h b).2 hb)⟩
theorem bK {os os':List Own} {fs:List bA} (h:os.Perm os'):Seals os fs os' fs:=Seals.perm h
end Go.Proofs.YtpbhjlljgbjjlaaGreat
