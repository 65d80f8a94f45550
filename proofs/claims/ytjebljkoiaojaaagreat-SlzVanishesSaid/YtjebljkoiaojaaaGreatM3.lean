/- Towards the statement, part 3 of 6: contracts of functions, and what they rest on. Conditions: each theorem names its own. -/
import Derived.Test.YtjebljkoiaojaaaGreatM2
set_option linter.unusedVariables false
set_option linter.unusedSimpArgs false
namespace Go.Proofs.YtjebljkoiaojaaaGreat
def pev:List Int→Int→Int
 | [],_=>0
 | c::l,x=>c+x*pev l x
def nrm:List Int→List Int
 | []=>[]
 | c::l=>match nrm l with
  | []=>if c=0 then [] else [c]
  | d::m=>c::d::m
theorem fY (c:Int) (l:List Int):nrm (c::l)=if nrm l=[]∧c=0 then [] else c::nrm l:=by
 rw [nrm]
 cases h:nrm l with
 | nil=>by_cases hc:c=0 <;> simp [hc]
 | cons d m=>simp
theorem iE (l:List Int):nrm (nrm l)=nrm l:=by
 induction l with
 | nil=>rfl
 | cons c l ih =>
  rw [fY]
  by_cases h:nrm l=[]∧c=0
  ·rw [if_pos h]; rfl
  ·rw [if_neg h,fY,ih,if_neg h]
theorem dL (l:List Int) (x:Int):pev (nrm l) x=pev l x:=by
 induction l with
 | nil=>rfl
 | cons c l ih =>
  rw [fY]
  by_cases h:nrm l=[]∧c=0
  ·rw [if_pos h,h.2]
   rw [h.1] at ih
   simp only [pev] at ih ⊢
   rw [← ih]; simp
  ·rw [if_neg h]; simp only [pev]; rw [ih]
theorem gM (l:List Int) (i:Nat):(nrm l).getD i 0=l.getD i 0:=by
 induction l generalizing i with
 | nil=>rfl
 | cons c l ih =>
  rw [fY]
  by_cases h:nrm l=[]∧c=0
  ·rw [if_pos h]
   cases i with
   | zero=>simp [h.2]
   | succ i=>rw [List.getD_cons_succ,← ih i,h.1]; simp
  ·rw [if_neg h]
   cases i with
   | zero=>rfl
   | succ i=>rw [List.getD_cons_succ,List.getD_cons_succ,ih]
theorem bX (l:List Int):(nrm l).length≤l.length:=by
 induction l with
 | nil=>exact Nat.le_refl _
 | cons c l ih =>
  rw [fY]
  split
  ·simp
  ·simp only [List.length_cons]; omega
theorem nrm_last (l:List Int) (h:0<(nrm l).length):(nrm l).getD ((nrm l).length - 1) 0≠0:=by
 induction l with
 | nil=>simp [nrm] at h
 | cons c l ih =>
  rw [fY] at h ⊢
  by_cases hc:nrm l=[]∧c=0
  ·rw [if_pos hc] at h; simp at h
  ·rw [if_neg hc] at h ⊢
   cases e:nrm l with
   | nil =>
    have:c≠0:=fun h0=>hc ⟨e,h0⟩
    simpa using this
   | cons d m =>
    have:=ih (by rw [e]; simp)
    rw [e] at this
    simpa using this
theorem wM {l:List Int} (h:l=[]∨l.getD (l.length - 1) 0≠0):nrm l=l:=by
 induction l with
 | nil=>rfl
 | cons c l ih =>
  rcases h with h | h
  ·simp at h
  ·rw [fY]
   cases l with
   | nil =>
    have:c≠0:=by simpa using h
    simp [nrm,this]
   | cons d m =>
    have h':(d::m).getD ((d::m).length - 1) 0≠0:=by simpa using h
    rw [ih (.inr h')]
    simp
theorem lO:∀ {l m:List Int},(∀ i,l.getD i 0=m.getD i 0)→nrm l=nrm m
 | [],[],_=>rfl
 | [],d::m,h=>by
  have h0:d=0:=by have:=h 0; simpa using this.symm
  have h1:=lO (l:=[]) (m:=m) fun i=>by have:=h (i+1); simpa using this
  rw [fY,← h1,if_pos ⟨rfl,h0⟩]; rfl
 | c::l,[],h=>by
  have h0:c=0:=by have:=h 0; simpa using this
  have h1:=lO (l:=l) (m:=[]) fun i=>by have:=h (i+1); simpa using this
  rw [fY,h1,if_pos ⟨rfl,h0⟩]; rfl
 | c::l,d::m,h=>by
  have h0:c=d:=by have:=h 0; simpa using this
  have h1:=lO (l:=l) (m:=m) fun i=>by have:=h (i+1); simpa using this
  rw [fY,fY,h1,h0]
theorem qX {c k x:Int} (h:c=x*k) (hx:c.natAbs<x.natAbs):c=0:=by
 by_cases hk:k=0
 ·rw [h,hk,Int.mul_zero]
 ·exfalso
  have h1:c.natAbs=x.natAbs*k.natAbs:=by rw [h,Int.natAbs_mul]
  have h2:1≤k.natAbs:=by omega
  have h3:x.natAbs*1≤x.natAbs*k.natAbs:=Nat.mul_le_mul_left _ h2
  omega
theorem mE:∀ {l m:List Int} (N:Nat),(∀ x:Int,(N:Int)≤x→pev l x=pev m x)→nrm l=nrm m
 | [],[],_,_=>rfl
 | [],d::m,N,h=>by
  have h0:d=0:=by
   have:=h (N+d.natAbs+1) qN
   simp only [pev] at this
   refine qX (x:=(N:Int)+d.natAbs+1) (k := - pev m ((N:Int)+d.natAbs+1)) ?_ qN
   rw [Int.mul_neg]; omega
  have h1:=mE (l:=[]) (m:=m) (N+1) fun x hx=>by
   have:=h x qN
   simp only [pev,h0] at this ⊢
   have:x*pev m x=0:=by omega
   rcases Int.mul_eq_zero.1 this with h2 | h2
   ·omega
   ·exact h2.symm
  rw [fY,← h1,if_pos ⟨rfl,h0⟩]; rfl
 | c::l,[],N,h=>by
  have h0:c=0:=by
   have:=h (N+c.natAbs+1) qN
   simp only [pev] at this
   refine qX (x:=(N:Int)+c.natAbs+1) (k := - pev l ((N:Int)+c.natAbs+1)) ?_ qN
   rw [Int.mul_neg]; omega
  have h1:=mE (l:=l) (m:=[]) (N+1) fun x hx=>by
   have:=h x qN
   simp only [pev,h0] at this ⊢
   have:x*pev l x=0:=by omega
   rcases Int.mul_eq_zero.1 this with h2 | h2
   ·omega
   ·exact h2
  rw [fY,h1,if_pos ⟨rfl,h0⟩]; rfl
 | c::l,d::m,N,h=>by
  have h0:c - d=0:=by
   have:=h (N+(c - d).natAbs+1) qN
   simp only [pev] at this
   refine qX (x:=(N:Int)+(c - d).natAbs+1) (k:=pev m ((N:Int)+(c - d).natAbs+1) - pev l ((N:Int)+(c - d).natAbs+1)) ?_ qN
   rw [Int.mul_sub]; omega
  have h1:=mE (l:=l) (m:=m) (N+1) fun x hx=>by
   have:=h x qN
   simp only [pev] at this
   have h2:x*(pev l x - pev m x)=0:=by rw [Int.mul_sub]; omega
   rcases Int.mul_eq_zero.1 h2 with h3 | h3 <;> omega
  rw [fY,fY,h1,show c=d by omega]
theorem ev_ext {l m:List Int} (h:∀ x,pev l x=pev m x):nrm l=nrm m:=mE 0 fun x _=>h x
theorem rZ {l m:List Int} (h:nrm l=nrm m) (x:Int):pev l x=pev m x:=by rw [← dL l,h,dL]
theorem ev_append (l m:List Int) (x:Int):pev (l++m) x=pev l x+x^l.length*pev m x:=by
 induction l with
 | nil=>simp [pev]
 | cons c l ih=>simp only [List.cons_append,pev,ih,List.length_cons,Int.pow_succ]; grind
theorem eM (c:Int) (l:List Int) (x:Int):pev (l.map fun y=>c*y) x=c*pev l x:=by
 induction l with
 | nil=>simp [pev]
 | cons d l ih=>simp only [List.map_cons,pev,ih]; grind
theorem ev_replicate (n:Nat) (x:Int):pev (List.replicate n 0) x=0:=by
 induction n with
 | zero=>rfl
 | succ n ih=>rw [List.replicate_succ,pev,ih]; simp
theorem uE {l:List Int} {i:Nat} (h:i<l.length) (x:Int):pev (l.take (i+1)) x=pev (l.take i) x+x^i*l.getD i 0:=by
 have e:l.take (i+1)=l.take i++[l.getD i 0]:=by rw [List.take_add_one]; simp [gE,h]
 rw [e,ev_append,List.length_take,Nat.min_eq_left (Nat.le_of_lt h)]
 simp [pev]
theorem ev_getD {l:List Int} {n:Nat} (h:l.length≤n) (x:Int):pev ((List.range n).map fun i=>l.getD i 0) x=pev l x:=by
 have:nrm ((List.range n).map fun i=>l.getD i 0)=nrm l:=lO fun i=>by
  by_cases hi:i<n
  ·simp [gE,hi]
  ·have:l.length≤i:=by omega
   simp [gE,hi,this]
 exact rZ this x
def Nm (l:List Int):Prop:=nrm l=l
theorem Nm.nil:Nm []:=rfl
theorem Nm.nrm (l:List Int):Nm (nrm l):=iE l
theorem Nm.ext {l m:List Int} (hl:Nm l) (hm:Nm m) (h:∀ x,pev l x=pev m x):l=m:=by rw [← hl,← hm]; exact ev_ext h
def lst (n:Nat) (f:Nat→Int):List Int:=(List.range n).map f
theorem dF (n:Nat) (f:Nat→Int):(lst n f).length=n:=by simp [lst]
theorem mK {n:Nat} {f:Nat→Int} {i:Nat} (h:i<n):(lst n f).getD i 0=f i:=by simp [lst,gE,h]
theorem rM (n:Nat) (f:Nat→Int) (i:Nat):(lst n f).getD i 0=if i<n then f i else 0:=by
 by_cases h:i<n
 ·rw [mK h,if_pos h]
 ·rw [if_neg h,gE,List.getElem?_eq_none (by rw [dF]; omega)]; rfl
theorem oM {n:Nat} {f g:Nat→Int} (h:∀ i,i<n→f i=g i):lst n f=lst n g:=List.map_congr_left fun i hi=>h i (List.mem_range.1 hi)
theorem mem_lst {n:Nat} {f:Nat→Int} {x:Int} (h:x∈lst n f):∃ i,i<n∧x=f i:=by
 obtain ⟨i,h1,h2⟩:=List.mem_map.1 h
 exact ⟨i,List.mem_range.1 h1,h2.symm⟩
theorem lst_succ (n:Nat) (f:Nat→Int):lst (n+1) f=f 0::lst n fun i=>f (i+1):=by
 simp [lst,List.range_succ_eq_map,Function.comp_def]
theorem fM {l:List Int} {i:Nat} (h:l.length≤i):l.getD i 0=0:=by rw [gE,List.getElem?_eq_none h]; rfl
theorem iV (n:Nat) (f:Nat→Int) (x:Int):pev (lst (n+1) f) x=f 0+x*pev (lst n fun i=>f (i+1)) x:=by rw [lst_succ]; rfl
theorem mY (n:Nat) (f g:Nat→Int) (x:Int):pev (lst n fun i=>f i+g i) x=pev (lst n f) x+pev (lst n g) x:=by
 induction n generalizing f g with
 | zero=>rfl
 | succ n ih=>rw [iV,iV,iV,ih]; grind
theorem ev_lst_mul (n:Nat) (c:Int) (f:Nat→Int) (x:Int):pev (lst n fun i=>c*f i) x=c*pev (lst n f) x:=by
 induction n generalizing f with
 | zero=>simp [lst,pev]
 | succ n ih=>rw [iV,iV,ih]; grind
theorem qC (n:Nat) (x:Int):pev (lst n fun _=>0) x=0:=by
 induction n with
 | zero=>rfl
 | succ n ih=>rw [iV,ih]; simp
theorem xK {l:List Int} {n:Nat} (h:l.length≤n) (x:Int):pev (lst n fun i=>l.getD i 0) x=pev l x:=ev_getD h x
def up (s:Nat) (l:List Int):List Int:=List.replicate s 0++l
theorem ev_up (s:Nat) (l:List Int) (x:Int):pev (up s l) x=x^s*pev l x:=by
 rw [up,ev_append,ev_replicate,List.length_replicate]; simp
theorem up_len (s:Nat) (l:List Int):(up s l).length=s+l.length:=by simp [up]
theorem up_get (s:Nat) (l:List Int) (i:Nat):(up s l).getD i 0=if i<s then 0 else l.getD (i - s) 0:=by
 unfold up
 by_cases h:i<s
 ·rw [if_pos h,gE,List.getElem?_append_left (by simpa using h)]; simp [h]
 ·rw [if_neg h,gE,List.getElem?_append_right (by simpa using Nat.le_of_not_lt h)]; simp [gE]
theorem up_lst (s n:Nat) (f:Nat→Int):up s (lst n f)=lst (s+n) fun i=>if i<s then 0 else f (i - s):=by
 refine List.ext_getElem? fun i=>?_
 by_cases h:i<s+n
 ·rw [List.getElem?_eq_getElem (by rw [up_len,dF]; exact h),List.getElem?_eq_getElem (by rw [dF]; exact h)]
  have h1:=up_get s (lst n f) i
  have h2:=mK (n:=s+n) (f:=fun i=>if i<s then 0 else f (i - s)) h
  rw [gE,List.getElem?_eq_getElem (by rw [up_len,dF]; exact h)] at h1
  rw [gE,List.getElem?_eq_getElem (by rw [dF]; exact h)] at h2
  simp only [Option.getD_some] at h1 h2
  rw [h1,h2]
  by_cases hs:i<s
  ·simp [hs]
  ·simp only [hs,if_false]; rw [mK qN]
 ·rw [List.getElem?_eq_none (by rw [up_len,dF]; omega),List.getElem?_eq_none (by rw [dF]; omega)]
def padd (l m:List Int):List Int:=nrm (lst (max l.length m.length) fun i=>l.getD i 0+m.getD i 0)
def psub (l m:List Int):List Int:=nrm (lst (max l.length m.length) fun i=>l.getD i 0 - m.getD i 0)
def ptim (c:Int) (l:List Int):List Int:=nrm (l.map fun y=>c*y)
def prai (c:Int) (s:Nat) (l:List Int):List Int:=nrm (up s (l.map fun y=>c*y))
theorem fV (l m:List Int) (x:Int):pev (padd l m) x=pev l x+pev m x:=by
 rw [padd,dL,mY,xK (Nat.le_max_left _ _),xK (Nat.le_max_right _ _)]
theorem iF (l m:List Int) (x:Int):pev (psub l m) x=pev l x - pev m x:=by
 have e:(fun i=>l.getD i 0 - m.getD i 0)=fun i=>l.getD i 0+(-1)*m.getD i 0:=funext fun i=>by omega
 rw [psub,dL,e,mY,ev_lst_mul,xK (Nat.le_max_left _ _),xK (Nat.le_max_right _ _)]; omega
theorem cS (c:Int) (l:List Int) (x:Int):pev (ptim c l) x=c*pev l x:=by rw [ptim,dL,eM]
theorem jQ (c:Int) (s:Nat) (l:List Int) (x:Int):pev (prai c s l) x=x^s*(c*pev l x):=by rw [prai,dL,ev_up,eM]
theorem ev_lst_isum (n m:Nat) (f:Nat→Nat→Int) (x:Int):pev (lst n fun y=>cN (fun t=>f t y) m) x=cN (fun t=>pev (lst n (f t)) x) m:=by
 induction m with
 | zero=>exact qC n x
 | succ m ih=>simp only [cN]; rw [mY,ih]
theorem ev_isum (l:List Int) (x:Int):pev l x=cN (fun i=>l.getD i 0*x^i) l.length:=by
 have:∀ (l:List Int),pev l x=cN (fun i=>l.getD i 0*x^i) l.length:=by
  intro l
  have h:∀ n,n≤l.length→pev (l.take n) x=cN (fun i=>l.getD i 0*x^i) n:=by
   intro n
   induction n with
   | zero=>intro _; rfl
   | succ n ih=>intro hn; rw [uE qN,ih qN,cN,Int.mul_comm]
  have:=h l.length (Nat.le_refl _)
  rwa [List.take_length] at this
 exact this l
def conv (a b:List Int) (m y:Nat):Int:=cN (fun t=>if t≤y then a.getD t 0*b.getD (y - t) 0 else 0) m
def pmul (l m:List Int):List Int :=
 let a:=nrm l
 let b:=nrm m
 if a=[]∨b=[] then [] else nrm (lst (a.length+b.length - 1) fun y=>conv a b a.length y)
theorem ev_shifted (b:List Int) (t n:Nat) (h:t+b.length≤n) (c x:Int):pev (lst n fun y=>if t≤y then c*b.getD (y - t) 0 else 0) x=c*x^t*pev b x:=by
 have e:pev (lst n fun y=>if t≤y then c*b.getD (y - t) 0 else 0) x=pev (up t (b.map fun y=>c*y)) x:=by
  refine rZ (lO fun i=>?_) x
  rw [up_get,rM]
  by_cases h1:i<t
  ·rw [if_pos h1,if_neg (by omega:¬ t≤i)]; split <;> rfl
  ·rw [if_neg h1]
   by_cases h2:i<n
   ·rw [if_pos h2,if_pos qN]
    simp [gE]
    cases b[i - t]? <;> simp
   ·rw [if_neg h2,fM]; rw [List.length_map]; omega
 rw [e,ev_up,eM]; grind
theorem ev_conv (a b:List Int) (x:Int) (hb:b≠[]) (ha:a≠[]):pev (lst (a.length+b.length - 1) fun y=>conv a b a.length y) x=pev a x*pev b x:=by
 unfold conv
 rw [ev_lst_isum]
 have h:∀ t,t<a.length→pev (lst (a.length+b.length - 1) fun y=>if t≤y then a.getD t 0*b.getD (y - t) 0 else 0) x=pev b x*(a.getD t 0*x^t):=fun t ht=>by
  rw [ev_shifted b t _ (by have:=List.length_pos_iff.2 hb; omega)]; grind
 rw [bN h,iM,← ev_isum,Int.mul_comm]
theorem bM (l m:List Int) (x:Int):pev (pmul l m) x=pev l x*pev m x:=by
 unfold pmul
 simp only
 split
 ·rename_i h
  rcases h with h | h
  ·rw [← dL l,h]; simp [pev]
  ·rw [← dL m,h]; simp [pev]
 ·rename_i h
  rw [dL,ev_conv _ _ _ (fun e=>h (.inr e)) (fun e=>h (.inl e)),dL,dL]
theorem wH (l m:List Int):Nm (padd l m):=iE _
theorem vY (l m:List Int):Nm (psub l m):=iE _
theorem ptim_nm (c:Int) (l:List Int):Nm (ptim c l):=iE _
theorem prai_nm (c:Int) (s:Nat) (l:List Int):Nm (prai c s l):=iE _
theorem pmul_nm (l m:List Int):Nm (pmul l m):=by unfold pmul; simp only; split; exact rfl; exact iE _
def dg (l:List Int):Nat:=(nrm l).length
def ld (l:List Int):Int:=l.getD (dg l - 1) 0
theorem mZ {l m:List Int} (h:∀ x,pev l x=pev m x) (i:Nat):l.getD i 0=m.getD i 0:=by rw [← gM l,ev_ext h,gM]
theorem dg_ext {l m:List Int} (h:∀ x,pev l x=pev m x):dg l=dg m:=by unfold dg; rw [ev_ext h]
theorem ld_ext {l m:List Int} (h:∀ x,pev l x=pev m x):ld l=ld m:=by unfold ld; rw [dg_ext h,mZ h]
theorem eK {l:List Int} (h:Nm l):dg l=l.length:=by unfold dg; rw [h]
theorem jU {l:List Int} {n:Nat}:dg l≤n↔∀ i,n≤i→l.getD i 0=0:=by
 constructor
 ·intro h i hi
  rw [← gM]
  exact fM (Nat.le_trans h hi)
 ·intro h
  refine Nat.le_of_not_lt fun hn=>?_
  have:=nrm_last l (show 0<(nrm l).length by unfold dg at hn; omega)
  rw [gM] at this
  exact this (h _ (by unfold dg at hn; omega))
theorem dI (l:List Int):dg l≤l.length:=bX l
theorem oN {l:List Int} (h:0<dg l):ld l≠0:=by
 have:=nrm_last l h
 rwa [gM] at this
theorem dE {l:List Int}:dg l=0↔∀ x,pev l x=0:=by
 constructor
 ·intro h x
  rw [← dL,List.length_eq_zero_iff.1 h]; rfl
 ·intro h
  have:=dg_ext (l:=l) (m:=[]) fun x=>by rw [h]; rfl
  rw [this]; rfl
theorem pV {l:List Int} (h:¬ ∀ x,pev l x=0):0<dg l:=Nat.pos_of_ne_zero fun e=>h (dE.1 e)
theorem co_psub (l m:List Int) (i:Nat):(psub l m).getD i 0=l.getD i 0 - m.getD i 0:=by
 rw [psub,gM,rM]
 split
 ·rfl
 ·rw [fM qN,fM qN]; rfl
theorem kR (l m:List Int) (i:Nat):(padd l m).getD i 0=l.getD i 0+m.getD i 0:=by
 rw [padd,gM,rM]
 split
 ·rfl
 ·rw [fM qN,fM qN]; rfl
theorem uH (c:Int) (l:List Int) (i:Nat):(l.map fun y=>c*y).getD i 0=c*l.getD i 0:=by
 simp only [gE,List.getElem?_map]
 cases l[i]? <;> simp
theorem tL (c:Int) (s:Nat) (l:List Int) (i:Nat):(prai c s l).getD i 0=if i<s then 0 else c*l.getD (i - s) 0:=by
 rw [prai,gM,up_get]
 split
 ·rfl
 ·rw [uH]
theorem qJ (c:Int) (l:List Int) (i:Nat):(ptim c l).getD i 0=c*l.getD i 0:=by rw [ptim,gM,uH]
theorem wB {a b:List Int} (ha:0<dg a) (hb:0<dg b):dg (pmul a b)+1=dg a+dg b∧ld (pmul a b)=ld a*ld b:=by
 have ea:ld a=(nrm a).getD ((nrm a).length - 1) 0:=by rw [gM]; rfl
 have eb:ld b=(nrm b).getD ((nrm b).length - 1) 0:=by rw [gM]; rfl
 have h1:¬ (nrm a=[]∨nrm b=[]):=by
  unfold dg at ha hb
  rintro (h | h)
  ·rw [h] at ha; simp at ha
  ·rw [h] at hb; simp at hb
 have hn:(lst ((nrm a).length+(nrm b).length - 1) fun y=>conv (nrm a) (nrm b) (nrm a).length y).getD ((nrm a).length+(nrm b).length - 1 - 1) 0=ld a*ld b:=by
  unfold dg at ha hb
  rw [mK qN,conv,kC (r:=(nrm a).length - 1) qN fun k hk hne=>by
   split
   ·rw [fM (l:=nrm b) qN,Int.mul_zero]
   ·rfl]
  rw [if_pos qN,ea,eb]
  congr 2; omega
 have hne:ld a*ld b≠0:=Int.mul_ne_zero (oN ha) (oN hb)
 have e:pmul a b=lst ((nrm a).length+(nrm b).length - 1) fun y=>conv (nrm a) (nrm b) (nrm a).length y:=by
  unfold pmul
  simp only
  rw [if_neg h1]
  refine wM (.inr ?_)
  rw [dF,hn]; exact hne
 have hd:dg (pmul a b)=(nrm a).length+(nrm b).length - 1:=by
  rw [eK (pmul_nm a b),e,dF]
 refine ⟨by rw [hd]; unfold dg at ha hb ⊢; omega,?_⟩
 unfold ld
 rw [hd,e,hn]
 rfl
theorem rK {a b c:List Int} (h:∀ x,pev c x=pev a x*pev b x) (ha:0<dg a) (hb:0<dg b):dg c+1=dg a+dg b∧ld c=ld a*ld b:=by
 have e:∀ x,pev c x=pev (pmul a b) x:=fun x=>by rw [h,bM]
 rw [dg_ext e,ld_ext e]
 exact wB ha hb
theorem mul_zero' {a b:List Int} (h:∀ x,pev a x*pev b x=0):dg a=0∨dg b=0:=by
 by_cases ha:0<dg a
 ·by_cases hb:0<dg b
  ·exfalso
   have h1:=(wB ha hb).1
   have h2:dg (pmul a b)=0:=dE.2 fun x=>by rw [bM,h]
   omega
  ·right; omega
 ·left; omega
theorem cancel {a u v:List Int} (ha:0<dg a) (h:∀ x,pev a x*pev u x=pev a x*pev v x) (x:Int):pev u x=pev v x:=by
 have h1:∀ x,pev a x*pev (psub u v) x=0:=fun x=>by rw [iF,Int.mul_sub,h]; omega
 rcases mul_zero' h1 with h2 | h2
 ·omega
 ·have:=dE.1 h2 x
  rw [iF] at this; omega
def Dv (a b:List Int):Prop:=∃ u,∀ x,pev b x=pev a x*pev u x
theorem Dv.refl (a:List Int):Dv a a:=⟨[1],fun x=>by simp [pev]⟩
theorem Dv.trans {a b c:List Int} (h:Dv a b) (k:Dv b c):Dv a c:=by
 obtain ⟨u,hu⟩:=h; obtain ⟨v,hv⟩:=k
 exact ⟨pmul u v,fun x=>by rw [hv,hu,bM]; grind⟩
theorem Dv.zero (a:List Int) {b:List Int} (h:∀ x,pev b x=0):Dv a b:=⟨[],fun x=>by rw [h]; simp [pev]⟩
theorem Dv.mul_right {a b c d:List Int} (h:Dv a b) (e:∀ x,pev d x=pev b x*pev c x):Dv a d:=by
 obtain ⟨u,hu⟩:=h
 exact ⟨pmul u c,fun x=>by rw [e,hu,bM]; grind⟩
theorem Dv.add {a b c d:List Int} (h:Dv a b) (k:Dv a c) (e:∀ x,pev d x=pev b x+pev c x):Dv a d:=by
 obtain ⟨u,hu⟩:=h; obtain ⟨v,hv⟩:=k
 exact ⟨padd u v,fun x=>by rw [e,hu,hv,fV]; grind⟩
theorem Dv.sub {a b c d:List Int} (h:Dv a b) (k:Dv a c) (e:∀ x,pev d x=pev b x - pev c x):Dv a d:=by
 obtain ⟨u,hu⟩:=h; obtain ⟨v,hv⟩:=k
 exact ⟨psub u v,fun x=>by rw [e,hu,hv,iF]; grind⟩
theorem Dv.ext {a b c d:List Int} (h:Dv a b) (h1:∀ x,pev a x=pev c x) (h2:∀ x,pev b x=pev d x):Dv c d:=by
 obtain ⟨u,hu⟩:=h
 exact ⟨u,fun x=>by rw [← h2,hu,h1]⟩
theorem Dv.deg {a b:List Int} (h:Dv a b) (hb:0<dg b):0<dg a∧dg a≤dg b:=by
 obtain ⟨u,hu⟩:=h
 have ha:0<dg a:=pV fun h=>by
  have:=(dE (l:=b)).2 fun x=>by rw [hu,h]; simp
  omega
 have h2:0<dg u:=pV fun h=>by
  have:=(dE (l:=b)).2 fun x=>by rw [hu,h]; simp
  omega
 have:=(rK hu ha h2).1
 exact ⟨ha,by omega⟩
theorem red_dg {p q:List Int} (hq:0<dg q) (hp:dg q≤dg p):dg (psub (prai (ld q) 0 p) (prai (ld p) (dg p - dg q) q))<dg p:=by
 have:dg (psub (prai (ld q) 0 p) (prai (ld p) (dg p - dg q) q))≤dg p - 1:=jU.2 fun i hi=>by
  rw [co_psub,tL,tL,if_neg qN,if_neg qN,Nat.sub_zero]
  by_cases h:i=dg p - 1
  ·rw [h,show dg p - 1 - (dg p - dg q)=dg q - 1 by omega]
   show ld q*ld p - ld p*ld q=0
   grind
  ·rw [jU.1 (Nat.le_refl (dg p)) i qN,jU.1 (Nat.le_refl (dg q)) (i - (dg p - dg q)) qN]; simp
 omega
theorem pseudo {q:List Int} (hq:0<dg q):∀ (n:Nat) (p:List Int),dg p≤n→∃ t r,dg r<dg q∧∀ x,ld q^(n+1 - dg q)*pev p x=pev q x*pev t x+pev r x
 | 0,p,hp=>⟨[],p,by omega,fun x=>by rw [show 0+1 - dg q=0 by omega]; simp [pev]⟩
 | n+1,p,hp=>by
  by_cases h:dg p<dg q
  ·refine ⟨[],ptim (ld q^(n+1+1 - dg q)) p,?_,fun x=>by rw [cS]; simp [pev]⟩
   refine Nat.lt_of_le_of_lt (jU.2 fun i hi=>?_) h
   rw [qJ,jU.1 (Nat.le_refl _) i hi,Int.mul_zero]
  ·have h1:=red_dg hq (Nat.le_of_not_lt h)
   obtain ⟨t,r,h2,h3⟩:=pseudo hq n _ (show dg (psub (prai (ld q) 0 p) (prai (ld p) (dg p - dg q) q))≤n by omega)
   refine ⟨padd t (prai (ld q^(n+1 - dg q)*ld p) (dg p - dg q) [1]),r,h2,fun x=>?_⟩
   have h4:=h3 x
   rw [iF,jQ,jQ] at h4
   rw [fV,jQ,show n+1+1 - dg q=(n+1 - dg q)+1 by omega,Int.pow_succ]
   simp only [pev,Int.pow_zero] at h4 ⊢
   grind
def cO (l:List Int):Nat:=l.foldr (fun c g=>Nat.gcd c.natAbs g) 0
theorem gL {k:Nat} {l:List Int}:k ∣ cO l↔∀ i,(k:Int) ∣ l.getD i 0:=by
 induction l with
 | nil=>exact ⟨fun _ i=>by simp,fun _=>Nat.dvd_zero k⟩
 | cons c l ih =>
  show k ∣ Nat.gcd c.natAbs (cO l)↔_
  rw [Nat.dvd_gcd_iff,ih]
  constructor
  ·rintro ⟨h1,h2⟩ i
   cases i with
   | zero=>exact Int.ofNat_dvd_left.2 h1
   | succ i=>simpa using h2 i
  ·intro h
   exact ⟨Int.ofNat_dvd_left.1 (by simpa using h 0),fun i=>by simpa using h (i+1)⟩
theorem sE {l m:List Int} (h:∀ x,pev l x=pev m x):cO l=cO m :=
 Nat.dvd_antisymm (gL.2 fun i=>by rw [← mZ h]; exact gL.1 (Nat.dvd_refl _) i) (gL.2 fun i=>by rw [mZ h]; exact gL.1 (Nat.dvd_refl _) i)
theorem eD {l:List Int}:cO l=0↔dg l=0:=by
 constructor
 ·intro h
  have:=gL.1 (show 0 ∣ cO l from ⟨0,by omega⟩)
  refine Nat.eq_zero_of_not_pos fun hp=>oN hp ?_
  exact Int.zero_dvd.1 (this _)
 ·intro h
  refine Nat.eq_zero_of_zero_dvd (gL.2 fun i=>?_)
  rw [jU.1 (Nat.le_of_eq h) i (Nat.zero_le i)]; exact ⟨0,by simp⟩
theorem cont_map (c:Int) (l:List Int):cO (l.map fun y=>c*y)=c.natAbs*cO l:=by
 induction l with
 | nil=>rfl
 | cons d l ih =>
  show Nat.gcd (c*d).natAbs (cO _)=c.natAbs*Nat.gcd d.natAbs (cO l)
  rw [ih,Int.natAbs_mul,Nat.gcd_mul_left]
theorem vD {l m:List Int} {c:Int} (h:∀ x,pev m x=c*pev l x):cO m=c.natAbs*cO l:=by
 rw [← cont_map]; exact sE fun x=>by rw [h,eM]
theorem by_const {k:Nat} {l:List Int} (h:k ∣ cO l):∃ u,∀ x,pev l x=k*pev u x:=by
 refine ⟨l.map fun y=>y/k,fun x=>?_⟩
 rw [← eM]
 congr 1
 rw [List.map_map]
 have:∀ y,y∈l→y=((fun y=>(k:Int)*y) ∘ fun y=>y/k) y:=fun y hy=>by
  obtain ⟨i,hi,rfl⟩:=List.mem_iff_getElem.1 hy
  have:=gL.1 h i
  rw [gE,List.getElem?_eq_getElem hi] at this
  exact (Int.mul_ediv_cancel' this).symm
 exact (List.map_id l).symm.trans (List.map_congr_left this)
theorem vZ {l:List Int} (h:0<dg l):∃ u,cO u=1∧∀ x,pev l x=cO l*pev u x:=by
 obtain ⟨u,hu⟩:=by_const (Nat.dvd_refl (cO l))
 refine ⟨u,?_,hu⟩
 have h1:=vD hu
 rw [Int.natAbs_natCast] at h1
 have h2:cO l≠0:=fun e=>by have:=eD.1 e; omega
 exact Nat.eq_of_mul_eq_mul_left (Nat.pos_of_ne_zero h2) qN
def tail (l:List Int):List Int:=psub l (prai (ld l) (dg l - 1) [1])
theorem tail_dg {l:List Int} (h:0<dg l):dg (tail l)<dg l:=by
 have:dg (tail l)≤dg l - 1:=jU.2 fun i hi=>by
  rw [tail,co_psub,tL,if_neg qN]
  by_cases e:i=dg l - 1
  ·rw [e,Nat.sub_self]; simp [ld]
  ·rw [jU.1 (Nat.le_refl (dg l)) i qN,fM (l:=[1]) (by simp; omega)]; simp
 omega
theorem tail_ev (l:List Int) (x:Int):pev l x=pev (tail l) x+ld l*x^(dg l - 1):=by
 rw [tail,iF,jQ]; simp only [pev]; grind
theorem gauss:∀ (n:Nat) (a b c:List Int),dg a+dg b≤n→(∀ x,pev c x=pev a x*pev b x)→cO c=cO a*cO b:=by
 intro n
 induction n with
 | zero =>
  intro a b c hn h
  have h1:dg a=0:=by omega
  have h2:dg c=0:=dE.2 fun x=>by rw [h,dE.1 h1]; simp
  rw [eD.2 h1,eD.2 h2]; simp
 | succ n ih =>
  intro a b c hn h
  by_cases ha:dg a=0
  ·have h2:dg c=0:=dE.2 fun x=>by rw [h,dE.1 ha]; simp
   rw [eD.2 ha,eD.2 h2]; simp
  by_cases hb:dg b=0
  ·have h2:dg c=0:=dE.2 fun x=>by rw [h,dE.1 hb]; simp
   rw [eD.2 hb,eD.2 h2]; simp
  obtain ⟨a1,ha1,ea⟩:=vZ (Nat.pos_of_ne_zero ha)
  obtain ⟨b1,hb1,eb⟩:=vZ (Nat.pos_of_ne_zero hb)
  have hca:cO a≠0:=fun e=>ha (eD.1 e)
  have hcb:cO b≠0:=fun e=>hb (eD.1 e)
  have hda:0<dg a1:=pV fun e=>ha (dE.2 fun x=>by rw [ea,e]; simp)
  have hdb:0<dg b1:=pV fun e=>hb (dE.2 fun x=>by rw [eb,e]; simp)
  have da:dg a1≤dg a:=((show Dv a1 a from ⟨[(cO a:Int)],fun x=>by rw [ea]; simp only [pev]; grind⟩).deg qN).2
  have db:dg b1≤dg b:=((show Dv b1 b from ⟨[(cO b:Int)],fun x=>by rw [eb]; simp only [pev]; grind⟩).deg qN).2
  have key:cO (pmul a1 b1)=1:=by
   have hk:∀ (u v:List Int),dg u+dg v≤n+1→cO u=1→cO v=1→0<dg u→Nat.gcd (cO (pmul u v)) (ld u).natAbs=1:=fun u v hl hu hv hd=>by
    have t:=tail_dg hd
    have e1:=ih (tail u) v (pmul (tail u) v) qN (bM _ _)
    rw [hv,Nat.mul_one] at e1
    have g1:Nat.gcd (cO (pmul u v)) (ld u).natAbs ∣ cO (tail u):=by
     rw [← e1]
     refine gL.2 fun i=>?_
     have e2:∀ x,pev (pmul (tail u) v) x=pev (psub (pmul u v) (prai (ld u) (dg u - 1) v)) x:=fun x=>by
      rw [bM,iF,bM,jQ,tail_ev u x]; grind
     rw [mZ e2,co_psub,tL]
     refine Int.dvd_sub (Int.dvd_trans (Int.natCast_dvd_natCast.2 (Nat.gcd_dvd_left _ _)) (gL.1 (Nat.dvd_refl _) i)) ?_
     split
     ·exact ⟨0,by simp⟩
     ·exact Int.dvd_trans (Int.ofNat_dvd_left.2 (Nat.gcd_dvd_right _ _)) ⟨_,rfl⟩
    have g2:Nat.gcd (cO (pmul u v)) (ld u).natAbs ∣ cO u:=by
     refine gL.2 fun i=>?_
     have e3:∀ x,pev u x=pev (padd (tail u) (prai (ld u) (dg u - 1) [1])) x:=fun x=>by
      rw [fV,jQ,tail_ev u x]; simp only [pev]; grind
     rw [mZ e3,kR,tL]
     refine Int.dvd_add (gL.1 g1 i) ?_
     split
     ·exact ⟨0,by simp⟩
     ·exact Int.dvd_trans (Int.ofNat_dvd_left.2 (Nat.gcd_dvd_right _ _)) ⟨_,rfl⟩
    rw [hu] at g2
    exact Nat.dvd_one.1 g2
   have k1:=hk a1 b1 qN ha1 hb1 hda
   have k2:=hk b1 a1 qN hb1 ha1 hdb
   have e4:cO (pmul b1 a1)=cO (pmul a1 b1):=sE fun x=>by rw [bM,bM,Int.mul_comm]
   rw [e4] at k2
   have h5:(cO (pmul a1 b1):Int) ∣ ld a1*ld b1:=by
    rw [← (wB hda hdb).2]
    exact gL.1 (Nat.dvd_refl _) _
   have h6:cO (pmul a1 b1) ∣ (ld a1).natAbs*(ld b1).natAbs:=by rw [← Int.natAbs_mul]; exact Int.ofNat_dvd_left.1 h5
   have h7:cO (pmul a1 b1) ∣ (ld b1).natAbs:=Nat.Coprime.dvd_of_dvd_mul_left k1 h6
   have h8:Nat.gcd (cO (pmul a1 b1)) (ld b1).natAbs=cO (pmul a1 b1):=Nat.gcd_eq_left h7
   omega
  have e5:∀ x,pev c x=((cO a*cO b:Nat):Int)*pev (pmul a1 b1) x:=fun x=>by
   rw [h,ea,eb,bM]; push_cast; grind
  rw [vD e5,key,Int.natAbs_natCast,Nat.mul_one]
theorem xT {a b c:List Int} (h:∀ x,pev c x=pev a x*pev b x):cO c=cO a*cO b:=gauss _ a b c (Nat.le_refl _) h
theorem Dv.prim {a b:List Int} {k:Int} (ha:cO a=1) (hk:k≠0) (h:Dv a (b.map fun y=>k*y)):Dv a b:=by
 obtain ⟨u,hu⟩:=h
 have h1:=xT hu
 rw [ha,Nat.one_mul,cont_map] at h1
 obtain ⟨v,hv⟩:=by_const (k:=k.natAbs) (l:=u) ⟨cO b,by rw [h1]⟩
 have h2:∀ x,k*pev b x=pev a x*(k.natAbs*pev v x):=fun x=>by rw [← hv,← hu,eM]
 refine ⟨v.map fun y=>(k.sign)*y,fun x=>?_⟩
 rw [eM]
 have h3:=h2 x
 have h4:(k.natAbs:Int)=k*k.sign:=by rw [Int.mul_sign_self]
 rw [h4] at h3
 refine Int.eq_of_mul_eq_mul_left hk ?_
 rw [h3]; grind
theorem Dv.cnt {a b:List Int} (h:Dv a b):cO a ∣ cO b:=by
 obtain ⟨u,hu⟩:=h
 exact ⟨_,xT hu⟩
def Gc (g p q:List Int):Prop:=Dv g p∧Dv g q∧(∀ h,Dv h p→Dv h q→Dv h g)∧0≤ld g
theorem const_ev {u:List Int} (h:dg u≤1) (x:Int):pev u x=u.getD 0 0:=by
 have:nrm u=nrm [u.getD 0 0]:=lO fun i=>by
  cases i with
  | zero=>rfl
  | succ i=>rw [jU.1 h (i+1) qN]; rfl
 rw [rZ this]; simp [pev]
def kL (l:List Int):Int:=if ld l<0 then - (cO l:Int) else cO l
def pprim (l:List Int):List Int:=nrm ((nrm l).map fun y=>y/kL l)
theorem fK (l:List Int):(kL l).natAbs=cO l:=by
 unfold kL; split <;> omega
theorem jG (l:List Int) (x:Int):pev l x=kL l*pev (pprim l) x:=by
 rw [pprim,dL,← eM,List.map_map]
 rw [← dL l]
 congr 1
 have:∀ y,y∈nrm l→y=((fun y=>kL l*y) ∘ fun y=>y/kL l) y:=fun y hy=>by
  obtain ⟨i,hi,rfl⟩:=List.mem_iff_getElem.1 hy
  have h1:=gL.1 (Nat.dvd_refl (cO l)) i
  rw [← gM,gE,List.getElem?_eq_getElem hi] at h1
  have h2:kL l ∣ (nrm l)[i]:=by
   rw [← Int.natAbs_dvd,fK]; exact h1
  exact (Int.mul_ediv_cancel' h2).symm
 exact (List.map_id _).symm.trans (List.map_congr_left this)
theorem m6 (l:List Int):Nm (pprim l):=iE _
theorem pprim_zero {l:List Int} (h:dg l=0):pprim l=[]:=by
 unfold pprim
 rw [List.length_eq_zero_iff.1 h]; rfl
theorem dO (l:List Int):dg (pprim l)=dg l:=by
 by_cases h:dg l=0
 ·rw [pprim_zero h,h]; rfl
 have h0:kL l≠0:=fun e=>h (eD.1 (by have:=fK l; omega))
 have e:∀ x,pev l x=pev [kL l] x*pev (pprim l) x:=fun x=>by rw [jG]; simp [pev]
 have h1:0<dg (pprim l):=pV fun e1=>h (dE.2 fun x=>by rw [jG,e1]; simp)
 have h2:dg [kL l]=1:=by simp [dg,nrm,h0]
 have:=(rK e qN h1).1
 omega
theorem fI {l:List Int} (h:0<dg l):cO (pprim l)=1:=by
 have h1:=vD (jG l)
 rw [fK] at h1
 have h2:cO l≠0:=fun e=>by have:=eD.1 e; omega
 exact Nat.eq_of_mul_eq_mul_left (Nat.pos_of_ne_zero h2) qN
theorem o8 {l:List Int} (h:0<dg l):0<ld (pprim l):=by
 have h1:=oN (l:=pprim l) (by rw [dO]; exact h)
 have h2:ld l=kL l*ld (pprim l):=by
  have e:∀ x,pev l x=pev (ptim (kL l) (pprim l)) x:=fun x=>by rw [cS,← jG]
  unfold ld
  rw [mZ e,qJ,dO]
 have h3:=oN h
 unfold kL at h2
 refine Int.not_le.1 fun hn=>?_
 have h4:ld (pprim l)<0:=by omega
 have hc:(0:Int)≤cO l:=Int.natCast_nonneg _
 split at h2
 ·have:=Int.mul_nonneg_of_nonpos_of_nonpos (show -(cO l:Int)≤0 by omega) (Int.le_of_lt h4); omega
 ·have:=Int.mul_nonpos_of_nonneg_of_nonpos hc (Int.le_of_lt h4); omega
theorem prim_dv {h r:List Int} (hh:cO h=1):Dv h (pprim r)↔Dv h r:=by
 constructor
 ·rintro ⟨u,hu⟩
  exact ⟨ptim (kL r) u,fun x=>by rw [jG,hu,cS]; grind⟩
 ·intro hd
  by_cases h0:dg r=0
  ·exact Dv.zero _ fun x=>by rw [pprim_zero h0]; rfl
  have h1:kL r≠0:=fun e=>h0 (eD.1 (by have:=fK r; omega))
  exact Dv.prim hh h1 (hd.ext (fun _=>rfl) fun x=>by rw [eM,← jG])
theorem gcd_step {a b t r h:List Int} {k:Int} (hh:cO h=1) (hk:k≠0) (e:∀ x,k*pev a x=pev b x*pev t x+pev r x):Dv h a∧Dv h b↔Dv h b∧Dv h (pprim r):=by
 rw [prim_dv hh]
 constructor
 ·rintro ⟨h1,h2⟩
  refine ⟨h2,(h1.mul_right (c:=[k]) (d:=ptim k a) fun x=>by rw [cS]; simp only [pev]; grind).sub (h2.mul_right (c:=t) (d:=pmul b t) fun x=>bM _ _ _) fun x=>?_⟩
  rw [cS,bM,e]; omega
 ·rintro ⟨h1,h2⟩
  refine ⟨Dv.prim hh hk ((h1.mul_right (c:=t) (d:=pmul b t) fun x=>bM _ _ _).add h2 fun x=>?_),h1⟩
  rw [eM,e,bM]
theorem gcd_end {p q a:List Int} (ha:0<dg a→cO a=1∧0<ld a) (hz:dg a=0→dg p=0∧dg q=0)
  (h:∀ h,cO h=1→(Dv h a↔Dv h (pprim p)∧Dv h (pprim q))):Gc (ptim (Nat.gcd (cO p) (cO q):Nat) a) p q:=by
 by_cases h0:dg a=0
 ·obtain ⟨h1,h2⟩:=hz h0
  have e:∀ x,pev (ptim (Nat.gcd (cO p) (cO q):Nat) a) x=0:=fun x=>by rw [cS,dE.1 h0]; simp
  refine ⟨Dv.zero _ (dE.1 h1),Dv.zero _ (dE.1 h2),fun d _ _=>Dv.zero _ e,?_⟩
  unfold ld; rw [jU.1 (Nat.le_of_eq (dE.2 e)) _ (Nat.zero_le _)]; exact Int.le_refl _
 obtain ⟨ha1,ha2⟩:=ha qN
 obtain ⟨k1,k2⟩:=(h a ha1).1 (Dv.refl a)
 have side:∀ (p:List Int) (c:Nat),c ∣ cO p→Dv a (pprim p)→Dv (ptim (c:Nat) a) p:=fun p c hc hd=>by
  obtain ⟨u,hu⟩:=hd
  obtain ⟨s,hs⟩:(c:Int) ∣ kL p:=by rw [← Int.dvd_natAbs,fK]; exact Int.natCast_dvd_natCast.2 hc
  exact ⟨ptim s u,fun x=>by rw [jG,hu,cS,cS,hs]; grind⟩
 refine ⟨side p _ (Nat.gcd_dvd_left _ _) k1,side q _ (Nat.gcd_dvd_right _ _) k2,fun d hp hq=>?_,?_⟩
 ·by_cases hd:dg d=0
  ·have z:∀ {p:List Int},Dv d p→cO p=0:=fun ⟨u,hu⟩=>eD.2 (dE.2 fun x=>by rw [hu,dE.1 hd]; simp)
   exact Dv.zero _ fun x=>by rw [cS,z hp,z hq]; simp
  have hd:0<dg d:=by omega
  have hdp:Dv (pprim d) d:=⟨[kL d],fun x=>by rw [jG]; simp only [pev]; grind⟩
  have h1:=(h (pprim d) (fI hd)).2 ⟨(prim_dv (fI hd)).2 (hdp.trans hp),(prim_dv (fI hd)).2 (hdp.trans hq)⟩
  obtain ⟨u,hu⟩:=h1
  have hc:cO d ∣ Nat.gcd (cO p) (cO q):=Nat.dvd_gcd hp.cnt hq.cnt
  obtain ⟨s,hs⟩:kL d ∣ (Nat.gcd (cO p) (cO q):Nat):=by rw [← Int.natAbs_dvd,fK]; exact Int.natCast_dvd_natCast.2 hc
  exact ⟨ptim s u,fun x=>by rw [cS,cS,hu,hs,jG d]; grind⟩
 ·have e:ld (ptim (Nat.gcd (cO p) (cO q):Nat) a)=if Nat.gcd (cO p) (cO q)=0 then 0 else (Nat.gcd (cO p) (cO q):Nat)*ld a:=by
   by_cases hg:Nat.gcd (cO p) (cO q)=0
   ·rw [if_pos hg]
    unfold ld; rw [qJ,hg]; simp
   ·rw [if_neg hg]
    have e:∀ x,pev (ptim (Nat.gcd (cO p) (cO q):Nat) a) x=pev [((Nat.gcd (cO p) (cO q):Nat):Int)] x*pev a x:=fun x=>by rw [cS]; simp [pev]
    have h2:dg [((Nat.gcd (cO p) (cO q):Nat):Int)]=1:=by simp only [dg,nrm]; rw [if_neg qN]; rfl
    have h3:ld [((Nat.gcd (cO p) (cO q):Nat):Int)]=(Nat.gcd (cO p) (cO q):Nat):=by unfold ld; rw [h2]; rfl
    rw [(rK e qN qN).2,h3]
  rw [e]
  split
  ·exact Int.le_refl _
  ·exact Int.mul_nonneg (Int.natCast_nonneg _) (Int.le_of_lt ha2)
theorem ipow_ne {a:Int} (h:a≠0):∀ n:Nat,a^n≠0
 | 0=>by rw [Int.pow_zero]; omega
 | n+1=>by rw [Int.pow_succ]; exact Int.mul_ne_zero (ipow_ne h n) h
theorem gc_run:∀ (n:Nat) (p q a b:List Int),dg b≤n→(0<dg a→cO a=1∧0<ld a)→(0<dg b→cO b=1∧0<ld b)→(dg a=0∧dg b=0→dg p=0∧dg q=0) →
  (∀ h,cO h=1→(Dv h a∧Dv h b↔Dv h (pprim p)∧Dv h (pprim q)))→∃ g,Gc g p q:=by
 intro n
 induction n with
 | zero =>
  intro p q a b hb ha _ hz h
  have hb0:dg b=0:=by omega
  refine ⟨_,gcd_end (a:=a) ha (fun h0=>hz ⟨h0,hb0⟩) fun d hd=>?_⟩
  rw [← h d hd]
  exact ⟨fun k=>⟨k,Dv.zero _ (dE.1 hb0)⟩,fun k=>k.1⟩
 | succ n ih =>
  intro p q a b hb ha hbp hz h
  by_cases h0:dg b=0
  ·exact ih p q a b qN ha hbp hz h
  obtain ⟨t,r,hr,e⟩:=pseudo (q:=b) qN (dg a) a (Nat.le_refl _)
  have hk:ld b^(dg a+1 - dg b)≠0:=fun e=>by
   have:=oN (l:=b) qN
   exact ipow_ne this _ e
  refine ih p q b (pprim r) (by rw [dO]; omega) hbp (fun h1=>?_) (fun h1=>by omega) fun d hd=>?_
  ·rw [dO] at h1
   exact ⟨fI h1,o8 h1⟩
  ·rw [← h d hd,gcd_step hd hk e]
theorem xD (p q:List Int):∃ g,Gc g p q:=by
 refine gc_run _ p q (pprim p) (pprim q) (Nat.le_refl _) (fun h=>?_) (fun h=>?_) (fun h=>?_) fun _ _=>Iff.rfl
 ·rw [dO] at h; exact ⟨fI h,o8 h⟩
 ·rw [dO] at h; exact ⟨fI h,o8 h⟩
 ·rwa [dO,dO] at h
theorem gc_mul {g p q r d:List Int} (h:Gc g p q) (h1:Dv d (pmul p r)) (h2:Dv d (pmul q r)):Dv d (pmul g r):=by
 by_cases hr:dg r=0
 ·exact Dv.zero _ fun x=>by rw [bM,dE.1 hr]; simp
 obtain ⟨k,hk⟩:=xD (pmul p r) (pmul q r)
 obtain ⟨a,ha⟩:=h.1
 obtain ⟨b,hb⟩:=h.2.1
 obtain ⟨u,hu⟩:=hk.2.2.1 (pmul g r) ⟨a,fun x=>by rw [bM,bM,ha]; grind⟩ ⟨b,fun x=>by rw [bM,bM,hb]; grind⟩
 have s:∀ (p:List Int),Dv k (pmul p r)→Dv (pmul g u) p:=fun p ⟨v,hv⟩=>⟨v,fun x=>by
  have:=cancel (a:=r) (u:=p) (v:=pmul (pmul g u) v) qN (fun x=>by
   have:=hv x
   rw [hu,bM,bM] at this
   rw [bM,bM]; grind) x
  rw [this,bM]⟩
 obtain ⟨w,hw⟩:=h.2.2.1 _ (s p hk.1) (s q hk.2.1)
 refine (hk.2.2.1 d h1 h2).trans ⟨w,fun x=>?_⟩
 rw [bM,hw,bM,hu,bM]; grind
def Irr (h:List Int):Prop:=cO h=1∧2≤dg h∧∀ d,cO d=1→Dv d h→dg d=1∨dg d=dg h
theorem Dv.prim_of {d h:List Int} (hh:cO h=1) (k:Dv d h):cO d=1:=by
 have:=k.cnt
 rw [hh] at this
 exact Nat.dvd_one.1 this
theorem tE:∀ (n:Nat) (p:List Int),dg p≤n→cO p=1→2≤dg p→∃ h,Irr h∧Dv h p
 | 0,p,h,_,h2=>by omega
 | n+1,p,hn,hc,h2=>by
  by_cases h:Irr p
  ·exact ⟨p,h,Dv.refl p⟩
  ·have:∃ d,cO d=1∧Dv d p∧dg d≠1∧dg d≠dg p:=Classical.byContradiction fun hn=>h ⟨hc,h2,fun d h3 h4=>by
    by_cases e:dg d=1
    ·exact .inl e
    ·by_cases e2:dg d=dg p
     ·exact .inr e2
     ·exact (hn ⟨d,h3,h4,e,e2⟩).elim⟩
   obtain ⟨d,h3,h4,h5,h6⟩:=this
   have:=h4.deg qN
   obtain ⟨h,h7,h8⟩:=tE n d qN h3 qN
   exact ⟨h,h7,h8.trans h4⟩
theorem Dv.back {d h:List Int} (hh:cO h=1) (k:Dv d h) (e:dg d=dg h):Dv h d:=by
 have h0:0<dg h:=Nat.pos_of_ne_zero fun e=>by rw [eD.2 e] at hh; omega
 obtain ⟨u,hu⟩:=k
 have hu0:0<dg u:=pV fun e=>by
  have:=(dE (l:=h)).2 fun x=>by rw [hu,e]; simp
  omega
 have h1:=(rK hu qN hu0).1
 have h2:=xT hu
 rw [hh] at h2
 have h3:cO u=1:=by
  exact Nat.eq_one_of_mul_eq_one_left h2.symm
 have h4:∀ x,pev u x=u.getD 0 0:=const_ev qN
 have h5:cO u=(u.getD 0 0).natAbs:=by
  have:=sE (l:=u) (m:=[u.getD 0 0]) fun x=>by rw [h4]; simp [pev]
  rw [this]; simp [cO]
 have h6:u.getD 0 0*u.getD 0 0=1:=by
  have:(u.getD 0 0).natAbs=1:=by omega
  have h7:=Int.natAbs_mul_self (a:=u.getD 0 0)
  rw [this] at h7; simpa using h7.symm
 exact ⟨u,fun x=>by rw [hu,h4,Int.mul_assoc,h6,Int.mul_one]⟩
theorem wU {h a b c:List Int} (hh:Irr h) (e:∀ x,pev c x=pev a x*pev b x) (k:Dv h c):Dv h a∨Dv h b:=by
 obtain ⟨g,hg⟩:=xD h a
 have hc:=hg.1.prim_of hh.1
 rcases hh.2.2 g hc hg.1 with h1 | h1
 ·right
  have h2:Dv h (pmul g b):=gc_mul hg ⟨b,fun x=>bM _ _ _⟩ (k.ext (fun _=>rfl) fun x=>by rw [e,bM])
  have h4:∀ x,pev g x=g.getD 0 0:=const_ev qN
  have h5:g.getD 0 0≠0:=by
   have:=oN (l:=g) qN
   rwa [ld,show dg g - 1=0 by omega] at this
  exact Dv.prim hh.1 h5 (h2.ext (fun _=>rfl) fun x=>by rw [bM,eM,h4])
 ·left
  exact (hg.1.back hh.1 h1).trans hg.2.1
def ppow (h:List Int):Nat→List Int
 | 0=>[1]
 | n+1=>pmul (ppow h n) h
theorem kP (h:List Int) (n:Nat) (x:Int):pev (ppow h n) x=pev h x^n:=by
 induction n with
 | zero=>simp [ppow,pev]
 | succ n ih=>rw [ppow,bM,ih,Int.pow_succ]
theorem val_exists {h:List Int} (hh:Irr h):∀ (n:Nat) (w:List Int),dg w≤n→0<dg w→∃ k v,¬ Dv h v∧∀ x,pev w x=pev h x^k*pev v x
 | 0,w,h1,h2=>by omega
 | n+1,w,h1,h2=>by
  by_cases hd:Dv h w
  ·obtain ⟨u,hu⟩:=hd
   have hu0:0<dg u:=pV fun e=>by
    have:=(dE (l:=w)).2 fun x=>by rw [hu,e]; simp
    omega
   have h3:=(rK hu (by have:=hh.2.1; omega) hu0).1
   have h4:=hh.2.1
   obtain ⟨k,v,h5,h6⟩:=val_exists hh n u qN hu0
   exact ⟨k+1,v,h5,fun x=>by rw [hu,h6,Int.pow_succ]; grind⟩
  ·exact ⟨0,w,hd,fun x=>by simp⟩
def pder (l:List Int):List Int:=nrm (lst (l.length - 1) fun i=>((i+1:Nat):Int)*l.getD (i+1) 0)
theorem kQ (l:List Int) (i:Nat):(pder l).getD i 0=((i+1:Nat):Int)*l.getD (i+1) 0:=by
 rw [pder,gM,rM]
 split
 ·rfl
 ·rw [fM (l:=l) qN]; simp
theorem ev_co {l m:List Int} (h:∀ i,l.getD i 0=m.getD i 0) (x:Int):pev l x=pev m x:=rZ (lO h) x
theorem rG {l m:List Int} (h:∀ x,pev l x=pev m x) (x:Int):pev (pder l) x=pev (pder m) x:=ev_co (fun i=>by rw [kQ,kQ,mZ h]) x
theorem pder_nm (l:List Int):Nm (pder l):=iE _
theorem pder_nil:pder []=[]:=rfl
theorem wF (c:Int) (l:List Int) (x:Int):pev (pder (c::l)) x=pev l x+x*pev (pder l) x:=by
 have e:pev (pder (c::l)) x=pev (padd l (0::pder l)) x:=ev_co (fun i=>by
  rw [kQ,kR,List.getD_cons_succ]
  cases i with
  | zero=>simp
  | succ i=>rw [List.getD_cons_succ,kQ]; push_cast; grind) x
 rw [e,fV]; simp [pev]
theorem pder_padd (l m:List Int) (x:Int):pev (pder (padd l m)) x=pev (pder l) x+pev (pder m) x:=by
 rw [← fV]
 exact ev_co (fun i=>by rw [kQ,kR,kR,kQ,kQ]; grind) x
theorem pder_ptim (c:Int) (l:List Int) (x:Int):pev (pder (ptim c l)) x=c*pev (pder l) x:=by
 rw [← cS]
 exact ev_co (fun i=>by rw [kQ,qJ,qJ,kQ]; grind) x
theorem wE:∀ (l m:List Int) (x:Int),pev (pder (pmul l m)) x=pev (pder l) x*pev m x+pev l x*pev (pder m) x
 | [],m,x=>by
  have:pev (pder (pmul [] m)) x=pev (pder []) x:=rG (fun x=>by rw [bM]; simp [pev]) x
  rw [this]; simp [pder_nil,pev]
 | c::l,m,x=>by
  have e:pev (pder (pmul (c::l) m)) x=pev (pder (padd (ptim c m) (0::pmul l m))) x:=rG (fun x=>by
   rw [bM,fV,cS]; simp only [pev]; rw [bM]; grind) x
  rw [e,pder_padd,pder_ptim,wF,wF,wE l m x,bM]; simp only [pev]; grind
theorem pder_mul {a b c:List Int} (e:∀ x,pev c x=pev a x*pev b x) (x:Int):pev (pder c) x=pev (pder a) x*pev b x+pev a x*pev (pder b) x:=by
 rw [← wE]; exact rG (fun x=>by rw [e,bM]) x
theorem pder_dg {l:List Int} (h:2≤dg l):dg (pder l)+1=dg l:=by
 have h1:dg (pder l)≤dg l - 1:=jU.2 fun i hi=>by rw [kQ,jU.1 (Nat.le_refl (dg l)) _ qN,Int.mul_zero]
 have h2:¬ dg (pder l)≤dg l - 2:=fun hn=>by
  have h3:=jU.1 hn (dg l - 2) (Nat.le_refl _)
  rw [kQ,show dg l - 2+1=dg l - 1 by omega] at h3
  have h4:ld l≠0:=oN qN
  rcases Int.mul_eq_zero.1 h3 with h5 | h5
  ·omega
  ·exact h4 h5
 omega
theorem pder_low {l:List Int} (h:dg l≤1) (x:Int):pev (pder l) x=0:=by
 refine dE.1 (Nat.le_zero.1 (jU.2 fun i _=>?_)) x
 rw [kQ,jU.1 h _ qN,Int.mul_zero]
theorem pder_ppow (h:List Int):∀ (n:Nat) (x:Int),pev (pder (ppow h (n+1))) x=((n+1:Nat):Int)*pev h x^n*pev (pder h) x
 | 0,x=>by
  have:pev (pder (ppow h (0+1))) x=pev (pder h) x:=rG (fun x=>by rw [kP,Int.pow_succ,Int.pow_zero,Int.one_mul]) x
  rw [this]; simp
 | n+1,x=>by
  rw [ppow,wE,pder_ppow h n x,kP]; push_cast; grind
theorem vS {w g s h:List Int} (hw:0<dg w) (hg:Gc g w (pder w)) (hs:∀ x,pev w x=pev g x*pev s x) (hh:Irr h) (hd:Dv h w) :
  Dv h s∧∀ f,(∀ x,pev s x=pev h x*pev f x)→¬ Dv h f:=by
 obtain ⟨k,v,hv,ev⟩:=val_exists hh _ w (Nat.le_refl _) hw
 have h2:=hh.2.1
 cases k with
 | zero=>exact (hv (hd.ext (fun _=>rfl) fun x=>by rw [ev]; simp)).elim
 | succ k =>
  have e1:∀ x,pev w x=pev (ppow h (k+1)) x*pev v x:=fun x=>by rw [ev,kP]
  have e2:∀ x,pev (pder w) x=pev h x^k*pev (padd (pmul (ptim ((k+1:Nat):Int) (pder h)) v) (pmul h (pder v))) x:=fun x=>by
   rw [pder_mul e1,pder_ppow,kP,fV,bM,cS,bM,Int.pow_succ]; grind
  have h3:¬ Dv h (padd (pmul (ptim ((k+1:Nat):Int) (pder h)) v) (pmul h (pder v))):=fun hc=>by
   have h4:Dv h (pmul (ptim ((k+1:Nat):Int) (pder h)) v):=hc.sub (c:=pmul h (pder v)) ⟨pder v,fun x=>bM _ _ _⟩ fun x=>by rw [fV]; omega
   rcases wU hh (fun x=>bM _ _ _) h4 with h5 | h5
   ·have h6:dg (ptim ((k+1:Nat):Int) (pder h))=dg (pder h):=by
     have a1:dg [((k+1:Nat):Int)]=1:=by simp only [dg,nrm]; rw [if_neg qN]; rfl
     have:=(rK (a:=[((k+1:Nat):Int)]) (b:=pder h) (c:=ptim ((k+1:Nat):Int) (pder h)) (fun x=>by rw [cS]; simp [pev]) qN (by have:=pder_dg h2; omega)).1
     omega
    have h7:=pder_dg h2
    have:=h5.deg qN
    omega
   ·exact hv h5
  have hpk:0<dg (ppow h k):=pV fun e=>by
   have:=(dE (l:=w)).2 fun x=>by
    rw [ev,Int.pow_succ,← kP,e]; simp
   omega
  obtain ⟨e,he⟩:Dv (ppow h k) g:=hg.2.2.1 _ ⟨pmul h v,fun x=>by rw [ev,kP,bM,Int.pow_succ]; grind⟩ ⟨padd (pmul (ptim ((k+1:Nat):Int) (pder h)) v) (pmul h (pder v)),fun x=>by rw [e2,kP]⟩
  have h8:¬ Dv h e:=fun ⟨m,hm⟩=>h3 (by
   obtain ⟨z,hz⟩:=hg.2.1
   have h10:=cancel (u:=padd (pmul (ptim ((k+1:Nat):Int) (pder h)) v) (pmul h (pder v))) (v:=pmul h (pmul m z)) hpk fun x=>by
    rw [kP,← e2,hz,he,hm,kP,bM,bM]; grind
   exact ⟨pmul m z,fun x=>by rw [h10,bM]⟩)
  have h9:∀ x,pev (pmul h v) x=pev e x*pev s x:=fun x=>by
   rw [← bM]
   exact cancel hpk (fun x=>by
    have:=hs x
    rw [ev,he,kP,Int.pow_succ] at this
    rw [kP,bM,bM]; grind) x
  rcases wU hh h9 ⟨v,fun x=>bM _ _ _⟩ with h10 | h10
  ·exact (h8 h10).elim
  ·refine ⟨h10,fun f hf hdf=>hv ?_⟩
   have:∀ x,pev v x=pev (pmul e f) x:=cancel (a:=h) qN fun x=>by
    have:=h9 x
    rw [bM,hf] at this
    rw [bM]; grind
   obtain ⟨y,hy⟩:=hdf
   exact ⟨pmul e y,fun x=>by rw [this,bM,hy,bM]; grind⟩
theorem simple_free {w g s d:List Int} (hw:0<dg w) (hc:cO w=1) (hg:Gc g w (pder w)) (hs:∀ x,pev w x=pev g x*pev s x) (hd:Gc d s (pder s)):dg d=1:=by
 have hsw:Dv s w:=⟨g,fun x=>by rw [hs]; grind⟩
 have hcs:=hsw.prim_of hc
 have h0:0<dg s:=(hsw.deg hw).1
 have h1:=(hd.1.deg h0).1
 refine Classical.byContradiction fun hn=>?_
 obtain ⟨h,hh,hdv⟩:=tE _ d (Nat.le_refl _) (hd.1.prim_of hcs) qN
 have h2:=hdv.trans hd.1
 obtain ⟨k1,k2⟩:=vS hw hg hs hh (h2.trans hsw)
 obtain ⟨f,hf⟩:=h2
 refine k2 f hf ?_
 have h3:Dv h (pmul (pder h) f):=(hdv.trans hd.2.1).sub (c:=pmul h (pder f)) ⟨pder f,fun x=>bM _ _ _⟩ fun x=>by
  rw [pder_mul hf,bM,bM]; omega
 rcases wU hh (fun x=>bM _ _ _) h3 with h4 | h4
 ·have h5:=pder_dg hh.2.1
  have:=h4.deg (by have:=hh.2.1; omega)
  omega
 ·exact h4
theorem tR {w g s:List Int} (hw:0<dg w) (hg:Gc g w (pder w)) (hs:∀ x,pev w x=pev g x*pev s x):∀ (n:Nat) (d:List Int),dg d≤n+1→cO d=1→Dv d w→Dv d (ppow s n)
 | n,d,hn,hc,hd=>by
  have h0:=(hd.deg hw).1
  by_cases h1:dg d=1
  ·have h2:∀ x,pev d x=d.getD 0 0:=const_ev qN
   have h5:cO d=(d.getD 0 0).natAbs:=by
    have:=sE (l:=d) (m:=[d.getD 0 0]) fun x=>by rw [h2]; simp [pev]
    rw [this]; simp [cO]
   have h6:d.getD 0 0*d.getD 0 0=1:=by
    have h7:=Int.natAbs_mul_self (a:=d.getD 0 0)
    rw [← h5,hc] at h7; simpa using h7.symm
   have h3:Dv d [1]:=⟨d,fun x=>by rw [h2,h6]; simp [pev]⟩
   exact h3.trans ⟨ppow s n,fun x=>by simp [pev]⟩
  ·cases n with
   | zero=>omega
   | succ n =>
    obtain ⟨h,hh,hdv⟩:=tE _ d (Nat.le_refl _) hc qN
    obtain ⟨e,he⟩:=hdv
    have h2:=hh.2.1
    have he0:0<dg e:=pV fun z=>by
     have:=(dE (l:=d)).2 fun x=>by rw [he,z]; simp
     omega
    have h3:=(rK he qN he0).1
    have hed:Dv e d:=⟨h,fun x=>by rw [he]; grind⟩
    obtain ⟨a,ha⟩:=tR hw hg hs n e qN (hed.prim_of hc) (hed.trans hd)
    obtain ⟨b,hb⟩:=(vS hw hg hs hh ((show Dv h d from ⟨e,he⟩).trans hd)).1
    exact ⟨pmul a b,fun x=>by rw [ppow,bM,ha,hb,he,bM]; grind⟩
def gh:List Int→Int→Int→Int
 | [],_,_=>0
 | c::l,w,u=>c*w^(l.length+1)+u*gh l w u
def ghl (w:Int):List Int→List Int
 | []=>[]
 | c::l=>c*w^(l.length+1)::ghl w l
def g1:List Int→Int→Int→Int
 | [],_,_=>0
 | _::l,w,u=>gh l w u+u*g1 l w u
def g1l (w:Int):List Int→List Int
 | []=>[]
 | _::l=>padd (ghl w l) (0::g1l w l)
theorem xA (w u:Int) (l:List Int):pev (ghl w l) u=gh l w u:=by
 induction l with
 | nil=>rfl
 | cons c l ih=>simp only [ghl,gh,pev,ih]
theorem g1l_ev (w u:Int) (l:List Int):pev (g1l w l) u=g1 l w u:=by
 induction l with
 | nil=>rfl
 | cons c l ih=>simp only [g1l,g1,fV,xA,pev,ih]; omega
theorem gh_at (w x:Int) (l:List Int):gh l w (w*x)=w^l.length*pev l x:=by
 induction l with
 | nil=>simp [gh,pev]
 | cons c l ih=>simp only [gh,pev,ih,List.length_cons,Int.pow_succ]; grind
theorem g1_at (w x:Int) (l:List Int):w*g1 l w (w*x)=w^l.length*pev (pder l) x:=by
 induction l with
 | nil=>rw [pder_nil]; simp [g1,pev]
 | cons c l ih =>
  rw [wF]
  simp only [g1,gh_at,List.length_cons,Int.pow_succ]
  have:w*(w^l.length*pev l x+w*x*g1 l w (w*x))=w^l.length*w*pev l x+w*x*(w*g1 l w (w*x)):=by grind
  rw [this,ih]; grind
def gC (M:Nat):List Int→Nat
 | []=>0
 | c::l=>c.natAbs+M*gC M l
def gD (M:Nat):List Int→Nat
 | []=>0
 | _::l=>M*gD M l+gC (M+1) l
def gF (M:Nat):List Int→Nat
 | []=>0
 | _::l=>M*gF M l+gD M l
theorem gh_le {M w:Nat} {u:Int} (h:u.natAbs≤M*w) (l:List Int):(gh l w u).natAbs≤gC M l*w^l.length:=by
 induction l with
 | nil=>simp [gh]
 | cons c l ih =>
  have h1:=Int.natAbs_add_le (c*(w:Int)^(l.length+1)) (u*gh l w u)
  rw [Int.natAbs_mul,Int.natAbs_mul,Int.natAbs_pow,Int.natAbs_natCast] at h1
  have h2:u.natAbs*(gh l w u).natAbs≤(M*w)*(gC M l*w^l.length):=Nat.mul_le_mul h ih
  have h3:(c.natAbs+M*gC M l)*w^(l.length+1)=c.natAbs*w^(l.length+1)+(M*w)*(gC M l*w^l.length):=by
   rw [Nat.pow_succ]; grind
  show (c*(w:Int)^(l.length+1)+u*gh l w u).natAbs≤(c.natAbs+M*gC M l)*w^(l.length+1)
  omega
theorem up_le {M w:Nat} {u:Int} (h:u.natAbs≤M*w) (hw:1≤w):(u+1).natAbs≤(M+1)*w:=by
 rw [Nat.succ_mul]; omega
theorem gh_lip {M w:Nat} {u:Int} (h:u.natAbs≤M*w) (hw:1≤w) (l:List Int):(gh l w (u+1) - gh l w u).natAbs*w≤gD M l*w^l.length:=by
 induction l with
 | nil=>simp [gh]
 | cons c l ih =>
  have e:gh (c::l) w (u+1) - gh (c::l) w u=u*(gh l w (u+1) - gh l w u)+gh l w (u+1):=by simp only [gh]; grind
  have h1:=Int.natAbs_add_le (u*(gh l w (u+1) - gh l w u)) (gh l w (u+1))
  rw [Int.natAbs_mul] at h1
  have h2:=gh_le (up_le h hw) l
  rw [e]
  have h3:u.natAbs*((gh l w (u+1) - gh l w u).natAbs*w)≤(M*w)*(gD M l*w^l.length):=Nat.mul_le_mul h ih
  have h4:(u*(gh l w (u+1) - gh l w u)+gh l w (u+1)).natAbs*w≤(u.natAbs*(gh l w (u+1) - gh l w u).natAbs+(gh l w (u+1)).natAbs)*w:=Nat.mul_le_mul_right _ h1
  have h5:(gh l w (u+1)).natAbs*w≤gC (M+1) l*w^l.length*w:=Nat.mul_le_mul_right _ h2
  have h6:(M*gD M l+gC (M+1) l)*w^(l.length+1)=(M*w)*(gD M l*w^l.length)+gC (M+1) l*w^l.length*w:=by rw [Nat.pow_succ]; grind
  have h7:(u.natAbs*(gh l w (u+1) - gh l w u).natAbs+(gh l w (u+1)).natAbs)*w=u.natAbs*((gh l w (u+1) - gh l w u).natAbs*w)+(gh l w (u+1)).natAbs*w:=by grind
  show _≤(M*gD M l+gC (M+1) l)*w^(l.length+1)
  omega
theorem gh_der {M w:Nat} {u:Int} (h:u.natAbs≤M*w) (hw:1≤w) (l:List Int):(gh l w (u+1) - gh l w u - g1 l w u).natAbs*(w*w)≤gF M l*w^l.length:=by
 induction l with
 | nil=>simp [gh,g1]
 | cons c l ih =>
  have e:gh (c::l) w (u+1) - gh (c::l) w u - g1 (c::l) w u=u*(gh l w (u+1) - gh l w u - g1 l w u)+(gh l w (u+1) - gh l w u):=by simp only [gh,g1]; grind
  have h1:=Int.natAbs_add_le (u*(gh l w (u+1) - gh l w u - g1 l w u)) (gh l w (u+1) - gh l w u)
  rw [Int.natAbs_mul] at h1
  have h2:=gh_lip h hw l
  rw [e]
  generalize gh l w (u+1) - gh l w u - g1 l w u=E at *
  generalize gh l w (u+1) - gh l w u=D at *
  have h3:u.natAbs*(E.natAbs*(w*w))≤(M*w)*(gF M l*w^l.length):=Nat.mul_le_mul h ih
  have h4:(u*E+D).natAbs*(w*w)≤(u.natAbs*E.natAbs+D.natAbs)*(w*w):=Nat.mul_le_mul_right _ h1
  have h5:D.natAbs*w*w≤gD M l*w^l.length*w:=Nat.mul_le_mul_right _ h2
  have h6:(M*gF M l+gD M l)*w^(l.length+1)=(M*w)*(gF M l*w^l.length)+gD M l*w^l.length*w:=by rw [Nat.pow_succ]; grind
  have h7:(u.natAbs*E.natAbs+D.natAbs)*(w*w)=u.natAbs*(E.natAbs*(w*w))+D.natAbs*w*w:=by grind
  show _≤(M*gF M l+gD M l)*w^(l.length+1)
  omega
def pst (w:Int):List Int→List Int
 | []=>[]
 | c::l=>c::(pst w l).map (fun y=>w*y)
theorem ev_pst (w:Int) (l:List Int) (x:Int):pev (pst w l) x=pev l (w*x):=by
 induction l with
 | nil=>rfl
 | cons c l ih=>simp only [pst,pev,eM,ih]; grind
theorem co_pst (w:Int) (l:List Int) (i:Nat):(pst w l).getD i 0=w^i*l.getD i 0:=by
 induction l generalizing i with
 | nil=>simp [pst]
 | cons c l ih =>
  cases i with
  | zero=>simp [pst]
  | succ i =>
   show ((pst w l).map fun y=>w*y).getD i 0=_
   rw [uH,ih,List.getD_cons_succ,Int.pow_succ]; grind
theorem mult_ext {F G:List Int} {w:Int} (hw:w≠0) (h:∀ x,pev F (w*x)=pev G (w*x)) (u:Int):pev F u=pev G u:=by
 have h1:∀ i,F.getD i 0=G.getD i 0:=fun i=>by
  have:=mZ (l:=pst w F) (m:=pst w G) (fun x=>by rw [ev_pst,ev_pst,h]) i
  rw [co_pst,co_pst] at this
  exact Int.eq_of_mul_eq_mul_left (Int.pow_ne_zero hw) this
 rw [← dL F,← dL G,lO h1]
theorem gh_bez {A B U V:List Int} {R:Int} (h:∀ x,pev U x*pev A x+pev V x*pev B x=R) {w:Int} (hw:w≠0) (u:Int) :
  w^(V.length+B.length)*(gh U w u*gh A w u)+w^(U.length+A.length)*(gh V w u*gh B w u)=R*w^(U.length+A.length+(V.length+B.length)):=by
 have:=mult_ext hw (F:=padd (ptim (w^(V.length+B.length)) (pmul (ghl w U) (ghl w A))) (ptim (w^(U.length+A.length)) (pmul (ghl w V) (ghl w B)))) (G:=[R*w^(U.length+A.length+(V.length+B.length))]) (fun x=>by
  rw [fV,cS,cS,bM,bM]
  simp only [xA,gh_at,pev]
  have e1:w^(V.length+B.length)*(w^U.length*pev U x*(w^A.length*pev A x))=w^(U.length+A.length+(V.length+B.length))*(pev U x*pev A x):=by simp only [Int.pow_add]; grind
  have e2:w^(U.length+A.length)*(w^V.length*pev V x*(w^B.length*pev B x))=w^(U.length+A.length+(V.length+B.length))*(pev V x*pev B x):=by simp only [Int.pow_add]; grind
  rw [e1,e2,← Int.mul_add,h]; grind) u
 rw [fV,cS,cS,bM,bM] at this
 simp only [xA,pev] at this
 omega
theorem gh_rel {A B C q:List Int} {α β:Int} (h:∀ x,α*pev A x=pev q x*pev B x - β*pev C x) {w:Int} (hw:w≠0) (u:Int) :
  w^(q.length+B.length+C.length)*(α*gh A w u)=w^(A.length+C.length)*(gh q w u*gh B w u) - w^(A.length+q.length+B.length)*(β*gh C w u):=by
 have:=mult_ext hw (F:=ptim (w^(q.length+B.length+C.length)*α) (ghl w A)) (G:=psub (ptim (w^(A.length+C.length)) (pmul (ghl w q) (ghl w B))) (ptim (w^(A.length+q.length+B.length)*β) (ghl w C))) (fun x=>by
  rw [iF,cS,cS,cS,bM]
  simp only [xA,gh_at]
  have e0:w^(q.length+B.length+C.length)*α*(w^A.length*pev A x)=w^(A.length+q.length+B.length+C.length)*(α*pev A x):=by simp only [Int.pow_add]; grind
  have e1:w^(A.length+C.length)*(w^q.length*pev q x*(w^B.length*pev B x))=w^(A.length+q.length+B.length+C.length)*(pev q x*pev B x):=by simp only [Int.pow_add]; grind
  have e2:w^(A.length+q.length+B.length)*β*(w^C.length*pev C x)=w^(A.length+q.length+B.length+C.length)*(β*pev C x):=by simp only [Int.pow_add]; grind
  rw [e0,e1,e2,h]; grind) u
 rw [iF,cS,cS,cS,bM] at this
 simp only [xA] at this
 grind
theorem g1_der (l:List Int) {w:Int} (hw:w≠0) (u:Int):w^(pder l).length*(w*g1 l w u)=w^l.length*gh (pder l) w u:=by
 have:=mult_ext hw (F:=ptim (w^(pder l).length*w) (g1l w l)) (G:=ptim (w^l.length) (ghl w (pder l))) (fun x=>by
  rw [cS,cS]
  simp only [xA,g1l_ev,gh_at]
  rw [Int.mul_assoc,g1_at]; grind) u
 rw [cS,cS] at this
 simp only [xA,g1l_ev] at this
 grind
def tch (l:List Int) (w:Nat) (u:Int):Prop:=gh l w u*gh l w (u+1)≤0
theorem abs_of_mul {a b:Int} (h:a*b≤0):a.natAbs≤(b - a).natAbs:=by
 rcases Int.lt_trichotomy a 0 with ha | ha | ha
 ·have:0≤b:=Int.le_of_not_gt fun hb=>by have:=Int.mul_pos_of_neg_of_neg ha hb; omega
  omega
 ·omega
 ·have:b≤0:=Int.le_of_not_gt fun hb=>by have:=Int.mul_pos ha hb; omega
  omega
theorem tch_small {M w:Nat} {u:Int} {l:List Int} (h:u.natAbs≤M*w) (hw:1≤w) (ht:tch l w u):(gh l w u).natAbs*w≤gD M l*w^l.length :=
 Nat.le_trans (Nat.mul_le_mul_right _ (abs_of_mul ht)) (gh_lip h hw l)
theorem touch_far {A B U V:List Int} {R:Int} (hR:R≠0) (h:∀ x,pev U x*pev A x+pev V x*pev B x=R) (M:Nat) :
  ∃ W,∀ w,W≤w→∀ u:Int,u.natAbs≤M*w→tch A w u→w^B.length≤2*gC M V*(gh B w u).natAbs∧0<gh B w u*gh B w (u+1):=by
 refine ⟨2*(gC M U*gD M A)+2*(gD M B*gC M V)+1,fun w hW u hu ht=>?_⟩
 have hw:1≤w:=by omega
 have hw0:(w:Int)≠0:=by omega
 have e:=gh_bez h hw0 u
 have hA:=tch_small hu hw ht
 have bU:=gh_le hu U
 have bV:=gh_le hu V
 have lB:=gh_lip hu hw B
 have key:w^B.length≤2*gC M V*(gh B w u).natAbs:=by
  have e1:=congrArg Int.natAbs e
  have e2:=Int.natAbs_add_le ((w:Int)^(V.length+B.length)*(gh U w u*gh A w u)) ((w:Int)^(U.length+A.length)*(gh V w u*gh B w u))
  rw [e1] at e2
  simp only [Int.natAbs_mul,Int.natAbs_pow,Int.natAbs_natCast] at e2
  generalize (gh U w u).natAbs=gU at *
  generalize (gh A w u).natAbs=gA at *
  generalize (gh V w u).natAbs=gV at *
  generalize (gh B w u).natAbs=gB at *
  have hR1:1≤R.natAbs:=by omega
  have f1:gU*(gA*w)≤(gC M U*w^U.length)*(gD M A*w^A.length):=Nat.mul_le_mul bU hA
  have f2:gV*gB≤(gC M V*w^V.length)*gB:=Nat.mul_le_mul_right _ bV
  have f3:1*w^(U.length+A.length+(V.length+B.length))≤R.natAbs*w^(U.length+A.length+(V.length+B.length)):=Nat.mul_le_mul_right _ hR1
  have P:0<w^(U.length+A.length+V.length):=Nat.pow_pos qN
  have g:w^(U.length+A.length+V.length)*(w^B.length*w)≤w^(U.length+A.length+V.length)*(gC M U*gD M A*w^B.length+gC M V*gB*w):=by
   have s1:w^(U.length+A.length+(V.length+B.length))*w≤(w^(V.length+B.length)*(gU*gA)+w^(U.length+A.length)*(gV*gB))*w:=Nat.mul_le_mul_right _ qN
   have s2:w^(V.length+B.length)*(gU*(gA*w))≤w^(V.length+B.length)*((gC M U*w^U.length)*(gD M A*w^A.length)):=Nat.mul_le_mul_left _ f1
   have s3:w^(U.length+A.length)*(gV*gB)*w≤w^(U.length+A.length)*((gC M V*w^V.length)*gB)*w:=Nat.mul_le_mul_right _ (Nat.mul_le_mul_left _ f2)
   have t1:w^(U.length+A.length+V.length)*(w^B.length*w)=w^(U.length+A.length+(V.length+B.length))*w:=by simp only [Nat.pow_add]; grind
   have t2:w^(U.length+A.length+V.length)*(gC M U*gD M A*w^B.length+gC M V*gB*w)=w^(V.length+B.length)*((gC M U*w^U.length)*(gD M A*w^A.length))+w^(U.length+A.length)*((gC M V*w^V.length)*gB)*w:=by simp only [Nat.pow_add]; grind
   have t3:(w^(V.length+B.length)*(gU*gA)+w^(U.length+A.length)*(gV*gB))*w=w^(V.length+B.length)*(gU*(gA*w))+w^(U.length+A.length)*(gV*gB)*w:=by grind
   omega
  have g2:=Nat.le_of_mul_le_mul_left g P
  have g3:2*(gC M U*gD M A)*w^B.length≤w*w^B.length:=Nat.mul_le_mul_right _ qN
  have g4:w^B.length*w≤(2*gC M V*gB)*w:=by
   have a1:w*w^B.length=w^B.length*w:=Nat.mul_comm _ _
   have a2:2*(gC M U*gD M A)*w^B.length=2*(gC M U*gD M A*w^B.length):=Nat.mul_assoc _ _ _
   have a3:(2*gC M V*gB)*w=2*(gC M V*gB*w):=by grind
   omega
  exact Nat.le_of_mul_le_mul_right g4 qN
 refine ⟨key,?_⟩
 have hB0:0<(gh B w u).natAbs:=Nat.pos_of_ne_zero fun e0=>by
  rw [e0,Nat.mul_zero] at key
  have:0<w^B.length:=Nat.pow_pos qN
  omega
 have hlt:(gh B w (u+1) - gh B w u).natAbs<(gh B w u).natAbs:=by
  have s1:gD M B*w^B.length≤gD M B*(2*gC M V*(gh B w u).natAbs):=Nat.mul_le_mul_left _ key
  have s2:gD M B*(2*gC M V*(gh B w u).natAbs)=(2*(gD M B*gC M V))*(gh B w u).natAbs:=by grind
  have s3:(2*(gD M B*gC M V)+1)*(gh B w u).natAbs≤w*(gh B w u).natAbs:=Nat.mul_le_mul_right _ qN
  refine Nat.lt_of_mul_lt_mul_right (a:=w) ?_
  have s4:(2*(gD M B*gC M V)+1)*(gh B w u).natAbs=(2*(gD M B*gC M V))*(gh B w u).natAbs+(gh B w u).natAbs:=by grind
  have s5:w*(gh B w u).natAbs=(gh B w u).natAbs*w:=Nat.mul_comm _ _
  omega
 generalize gh B w (u+1)=y at *
 generalize gh B w u=x at *
 rcases Int.lt_trichotomy x 0 with hx | hx | hx
 ·exact Int.mul_pos_of_neg_of_neg hx qN
 ·omega
 ·exact Int.mul_pos hx qN
theorem rel_opp {A B C q:List Int} {α β:Int} (hα:0<α) (hβ:0<β) (h:∀ x,α*pev A x=pev q x*pev B x - β*pev C x) (M c:Nat) :
  ∃ W,∀ w,W≤w→∀ u:Int,u.natAbs≤M*w→tch B w u→w^C.length≤c*(gh C w u).natAbs→gh A w u*gh C w u<0:=by
 refine ⟨gC M q*gD M B*c+1,fun w hW u hu ht hc=>?_⟩
 have hw:1≤w:=by omega
 have hw0:(w:Int)≠0:=by omega
 have hwp:(0:Int)<(w:Int):=by omega
 have e:=gh_rel h hw0 u
 have hB:=tch_small hu hw ht
 have bq:=gh_le hu q
 have hC0:0<(gh C w u).natAbs:=Nat.pos_of_ne_zero fun e0=>by
  rw [e0,Nat.mul_zero] at hc
  have:0<w^C.length:=Nat.pow_pos qN
  omega
 have hlt:w^(A.length+C.length)*((gh q w u).natAbs*(gh B w u).natAbs)<w^(A.length+q.length+B.length)*(gh C w u).natAbs:=by
  have s1:(gh q w u).natAbs*((gh B w u).natAbs*w)≤(gC M q*w^q.length)*(gD M B*w^B.length):=Nat.mul_le_mul bq hB
  have s2:w^(A.length+C.length)*((gh q w u).natAbs*((gh B w u).natAbs*w))≤w^(A.length+C.length)*((gC M q*w^q.length)*(gD M B*w^B.length)):=Nat.mul_le_mul_left _ s1
  have s3:w^(A.length+q.length+B.length)*(gC M q*gD M B*w^C.length)≤w^(A.length+q.length+B.length)*(gC M q*gD M B*(c*(gh C w u).natAbs)):=Nat.mul_le_mul_left _ (Nat.mul_le_mul_left _ hc)
  have t1:w^(A.length+C.length)*((gC M q*w^q.length)*(gD M B*w^B.length))=w^(A.length+q.length+B.length)*(gC M q*gD M B*w^C.length):=by simp only [Nat.pow_add]; grind
  have t2:w^(A.length+q.length+B.length)*(gC M q*gD M B*(c*(gh C w u).natAbs))=(gC M q*gD M B*c)*(w^(A.length+q.length+B.length)*(gh C w u).natAbs):=by grind
  have hP:0<w^(A.length+q.length+B.length)*(gh C w u).natAbs:=Nat.mul_pos (Nat.pow_pos qN) hC0
  have s4:(gC M q*gD M B*c+1)*(w^(A.length+q.length+B.length)*(gh C w u).natAbs)≤w*(w^(A.length+q.length+B.length)*(gh C w u).natAbs):=Nat.mul_le_mul_right _ hW
  refine Nat.lt_of_mul_lt_mul_right (a:=w) ?_
  have t3:w^(A.length+C.length)*((gh q w u).natAbs*(gh B w u).natAbs)*w=w^(A.length+C.length)*((gh q w u).natAbs*((gh B w u).natAbs*w)):=by grind
  have t4:(gC M q*gD M B*c+1)*(w^(A.length+q.length+B.length)*(gh C w u).natAbs)=(gC M q*gD M B*c)*(w^(A.length+q.length+B.length)*(gh C w u).natAbs)+w^(A.length+q.length+B.length)*(gh C w u).natAbs:=by grind
  have t5:w*(w^(A.length+q.length+B.length)*(gh C w u).natAbs)=w^(A.length+q.length+B.length)*(gh C w u).natAbs*w:=Nat.mul_comm _ _
  omega
 have hmid:((w:Int)^(A.length+C.length)*(gh q w u*gh B w u)).natAbs<((w:Int)^(A.length+q.length+B.length)*(β*gh C w u)).natAbs:=by
  simp only [Int.natAbs_mul,Int.natAbs_pow,Int.natAbs_natCast]
  have hb1:1≤β.natAbs:=by omega
  have:w^(A.length+q.length+B.length)*(1*(gh C w u).natAbs)≤w^(A.length+q.length+B.length)*(β.natAbs*(gh C w u).natAbs):=Nat.mul_le_mul_left _ (Nat.mul_le_mul_right _ hb1)
  rw [Nat.one_mul] at this
  omega
 have hPA:(0:Int)<(w:Int)^(q.length+B.length+C.length)*α:=Int.mul_pos (Int.pow_pos hwp) hα
 have hPC:(0:Int)<(w:Int)^(A.length+q.length+B.length)*β:=Int.mul_pos (Int.pow_pos hwp) hβ
 have e':((w:Int)^(q.length+B.length+C.length)*α)*gh A w u=(w:Int)^(A.length+C.length)*(gh q w u*gh B w u) - ((w:Int)^(A.length+q.length+B.length)*β)*gh C w u:=by
  rw [Int.mul_assoc,Int.mul_assoc]; exact e
 have hmid':((w:Int)^(A.length+C.length)*(gh q w u*gh B w u)).natAbs<(((w:Int)^(A.length+q.length+B.length)*β)*gh C w u).natAbs:=by rw [Int.mul_assoc]; exact hmid
 generalize (w:Int)^(A.length+C.length)*(gh q w u*gh B w u)=m at *
 generalize (w:Int)^(q.length+B.length+C.length)*α=a at *
 generalize (w:Int)^(A.length+q.length+B.length)*β=b at *
 generalize gh A w u=x at *
 generalize gh C w u=z at *
 rcases Int.lt_trichotomy z 0 with hz | hz | hz
 ·have h1:=Int.mul_neg_of_pos_of_neg hPC hz
  have h2:0<a*x:=by omega
  have hx:0<x:=by
   rcases Int.lt_trichotomy x 0 with k | k | k
   ·have:=Int.mul_neg_of_pos_of_neg hPA k; omega
   ·rw [k,Int.mul_zero] at h2; omega
   ·exact k
  exact Int.mul_neg_of_pos_of_neg hx hz
 ·omega
 ·have h1:=Int.mul_pos hPC hz
  have h2:a*x<0:=by omega
  have hx:x<0:=by
   rcases Int.lt_trichotomy x 0 with k | k | k
   ·exact k
   ·rw [k,Int.mul_zero] at h2; omega
   ·have:=Int.mul_pos hPA k; omega
  exact Int.mul_neg_of_neg_of_pos hx hz
theorem der_go (l:List Int) (M c:Nat):∃ W,∀ w,W≤w→∀ u:Int,u.natAbs≤M*w→w^(pder l).length≤c*(gh (pder l) w u).natAbs→0<(gh l w (u+1) - gh l w u)*gh (pder l) w u:=by
 refine ⟨gF M l*c+1,fun w hW u hu hc=>?_⟩
 have hw:1≤w:=by omega
 have hw0:(w:Int)≠0:=by omega
 have hwp:(0:Int)<(w:Int):=by omega
 have e:=g1_der l hw0 u
 have hE:=gh_der hu hw l
 have hD0:0<(gh (pder l) w u).natAbs:=Nat.pos_of_ne_zero fun e0=>by
  rw [e0,Nat.mul_zero] at hc
  have:0<w^(pder l).length:=Nat.pow_pos qN
  omega
 have hx:(gh l w (u+1) - gh l w u)=g1 l w u+(gh l w (u+1) - gh l w u - g1 l w u):=by omega
 generalize gh l w (u+1) - gh l w u - g1 l w u=E at *
 rw [hx]
 generalize hdl:gh (pder l) w u=d at *
 have hlt:w^(pder l).length*(w*E.natAbs)<w^l.length*d.natAbs:=by
  have s1:w^(pder l).length*(E.natAbs*(w*w))≤w^(pder l).length*(gF M l*w^l.length):=Nat.mul_le_mul_left _ hE
  have s2:w^(pder l).length*(gF M l*w^l.length)≤(c*d.natAbs)*(gF M l*w^l.length):=Nat.mul_le_mul_right _ hc
  have t1:(c*d.natAbs)*(gF M l*w^l.length)=(gF M l*c)*(w^l.length*d.natAbs):=by grind
  have hP:0<w^l.length*d.natAbs:=Nat.mul_pos (Nat.pow_pos qN) hD0
  have s3:(gF M l*c+1)*(w^l.length*d.natAbs)≤w*(w^l.length*d.natAbs):=Nat.mul_le_mul_right _ hW
  refine Nat.lt_of_mul_lt_mul_right (a:=w) ?_
  have t2:w^(pder l).length*(w*E.natAbs)*w=w^(pder l).length*(E.natAbs*(w*w)):=by grind
  have t3:(gF M l*c+1)*(w^l.length*d.natAbs)=(gF M l*c)*(w^l.length*d.natAbs)+w^l.length*d.natAbs:=by grind
  have t4:w*(w^l.length*d.natAbs)=w^l.length*d.natAbs*w:=Nat.mul_comm _ _
  omega
 have hmid:((w:Int)^(pder l).length*(w*E)).natAbs<((w:Int)^l.length*d).natAbs:=by
  simp only [Int.natAbs_mul,Int.natAbs_pow,Int.natAbs_natCast]
  exact hlt
 have hPA:(0:Int)<(w:Int)^(pder l).length*w:=Int.mul_pos (Int.pow_pos hwp) hwp
 have hPC:(0:Int)<(w:Int)^l.length:=Int.pow_pos hwp
 have e2:((w:Int)^(pder l).length*w)*(g1 l w u+E)=(w:Int)^l.length*d+(w:Int)^(pder l).length*(w*E):=by
  rw [← e]; grind
 generalize (w:Int)^(pder l).length*(w*E)=m at *
 generalize (w:Int)^(pder l).length*w=a at *
 generalize (w:Int)^l.length=b at *
 generalize g1 l w u+E=x at *
 rcases Int.lt_trichotomy d 0 with hz | hz | hz
 ·have h1:=Int.mul_neg_of_pos_of_neg hPC hz
  have h2:a*x<0:=by omega
  have hx:x<0:=by
   rcases Int.lt_trichotomy x 0 with k | k | k
   ·exact k
   ·rw [k,Int.mul_zero] at h2; omega
   ·have:=Int.mul_pos hPA k; omega
  exact Int.mul_pos_of_neg_of_neg hx hz
 ·omega
 ·have h1:=Int.mul_pos hPC hz
  have h2:0<a*x:=by omega
  have hx:0<x:=by
   rcases Int.lt_trichotomy x 0 with k | k | k
   ·have:=Int.mul_neg_of_pos_of_neg hPA k; omega
   ·rw [k,Int.mul_zero] at h2; omega
   ·exact k
  exact Int.mul_pos hx hz
def vs:Int→List Int→Nat
 | _,[]=>0
 | t,x::l=>if x=0 then vs t l else (if x*t<0 then 1 else 0)+vs x l
theorem vs_sign {t t':Int} (h:0<t*t') (l:List Int):vs t l=vs t' l:=by
 have key:∀ x:Int,x*t<0↔x*t'<0:=fun x=>by
  rcases Int.lt_trichotomy t 0 with ht | ht | ht
  ·have ht':t'<0:=Int.lt_of_not_ge fun h'=>by have:=Int.mul_nonpos_of_nonpos_of_nonneg (Int.le_of_lt ht) h'; omega
   constructor
   ·intro h1
    have:0<x:=Int.lt_of_not_ge fun h'=>by have:=Int.mul_nonneg_of_nonpos_of_nonpos h' (Int.le_of_lt ht); omega
    exact Int.mul_neg_of_pos_of_neg this ht'
   ·intro h1
    have:0<x:=Int.lt_of_not_ge fun h'=>by have:=Int.mul_nonneg_of_nonpos_of_nonpos h' (Int.le_of_lt ht'); omega
    exact Int.mul_neg_of_pos_of_neg this ht
  ·rw [ht,Int.zero_mul] at h; omega
  ·have ht':0<t':=Int.lt_of_not_ge fun h'=>by have:=Int.mul_nonpos_of_nonneg_of_nonpos (Int.le_of_lt ht) h'; omega
   constructor
   ·intro h1
    have:x<0:=Int.lt_of_not_ge fun h'=>by have:=Int.mul_nonneg h' (Int.le_of_lt ht); omega
    exact Int.mul_neg_of_neg_of_pos this ht'
   ·intro h1
    have:x<0:=Int.lt_of_not_ge fun h'=>by have:=Int.mul_nonneg h' (Int.le_of_lt ht'); omega
    exact Int.mul_neg_of_neg_of_pos this ht
 induction l with
 | nil=>rfl
 | cons x l ih =>
  simp only [vs]
  by_cases h0:x=0
  ·rw [if_pos h0,if_pos h0,ih]
  ·rw [if_neg h0,if_neg h0]
   by_cases h1:x*t<0
   ·rw [if_pos h1,if_pos ((key x).1 h1)]
   ·rw [if_neg h1,if_neg fun h2=>h1 ((key x).2 h2)]
inductive Reg:Int→Int→List (Int×Int)→Prop
 | nil {x y:Int}:Reg x y []
 | go {x y x1 y1:Int} {l:List (Int×Int)}:0<x1*y1→Reg x1 y1 l→Reg x y ((x1,y1)::l)
 | jump {x y x1 y1 x2 y2:Int} {l:List (Int×Int)}:x*x2<0→0<x2*y2→Reg x2 y2 l→Reg x y ((x1,y1)::(x2,y2)::l)
theorem vs_mid {x x1 x2:Int} (h:x*x2<0) (l:List Int):vs x (x1::x2::l)=1+vs x2 l:=by
 have hx2:x2≠0:=fun e=>by rw [e,Int.mul_zero] at h; omega
 have hx:x≠0:=fun e=>by rw [e,Int.zero_mul] at h; omega
 have h':x2*x<0:=by rw [Int.mul_comm]; exact h
 simp only [vs]
 rw [if_neg hx2,if_neg hx2,if_pos h']
 by_cases h0:x1=0
 ·rw [if_pos h0]
 ·rw [if_neg h0]
  rcases Int.lt_trichotomy x 0 with k | k | k
  ·have k2:0<x2:=Int.lt_of_not_ge fun k'=>by have:=Int.mul_nonneg_of_nonpos_of_nonpos (Int.le_of_lt k) k'; omega
   rcases Int.lt_trichotomy x1 0 with k1 | k1 | k1
   ·rw [if_neg (by have:=Int.mul_pos_of_neg_of_neg k1 k; omega),if_pos (Int.mul_neg_of_pos_of_neg k2 k1)]; omega
   ·exact absurd k1 h0
   ·rw [if_pos (Int.mul_neg_of_pos_of_neg k1 k),if_neg (by have:=Int.mul_pos k2 k1; omega)]; omega
  ·exact absurd k hx
  ·have k2:x2<0:=Int.lt_of_not_ge fun k'=>by have:=Int.mul_nonneg (Int.le_of_lt k) k'; omega
   rcases Int.lt_trichotomy x1 0 with k1 | k1 | k1
   ·rw [if_pos (Int.mul_neg_of_neg_of_pos k1 k),if_neg (by have:=Int.mul_pos_of_neg_of_neg k2 k1; omega)]; omega
   ·exact absurd k1 h0
   ·rw [if_neg (by have:=Int.mul_pos k1 k; omega),if_pos (Int.mul_neg_of_neg_of_pos k2 k1)]; omega
theorem reg_vs {x y:Int} {l:List (Int×Int)} (h:Reg x y l) (hxy:0<x*y):vs x (l.map (·.1))=vs y (l.map (·.2)):=by
 induction h with
 | nil=>rfl
 | @go x y x1 y1 l h1 _ ih =>
  have ih:=ih h1
  have n1:x1≠0:=fun e=>by rw [e,Int.zero_mul] at h1; omega
  have n2:y1≠0:=fun e=>by rw [e,Int.mul_zero] at h1; omega
  simp only [List.map_cons,vs]
  rw [if_neg n1,if_neg n2,ih]
  congr 1
  have key:x1*x<0↔y1*y<0:=by
   have e:(x1*x)*(y1*y)=(x1*y1)*(x*y):=by grind
   have hp:0<(x1*x)*(y1*y):=by rw [e]; exact Int.mul_pos h1 hxy
   constructor
   ·intro h; exact Int.lt_of_not_ge fun k=>by have:=Int.mul_nonpos_of_nonpos_of_nonneg (Int.le_of_lt h) k; omega
   ·intro h; exact Int.lt_of_not_ge fun k=>by have:=Int.mul_nonpos_of_nonneg_of_nonpos k (Int.le_of_lt h); omega
  by_cases k:x1*x<0
  ·rw [if_pos k,if_pos (key.1 k)]
  ·rw [if_neg k,if_neg fun k'=>k (key.2 k')]
 | @jump x y x1 y1 x2 y2 l h1 h2 _ ih =>
  have ih:=ih h2
  have h3:y*y2<0:=by
   have e:(x*x2)*(y*y2)=(x*y)*(x2*y2):=by grind
   have hp:0<(x*x2)*(y*y2):=by rw [e]; exact Int.mul_pos hxy h2
   exact Int.lt_of_not_ge fun k=>by have:=Int.mul_nonpos_of_nonpos_of_nonneg (Int.le_of_lt h1) k; omega
  simp only [List.map_cons]
  rw [vs_mid h1,vs_mid h3,ih]
theorem reg_head {x0 y0 x1 y1:Int} {l:List (Int×Int)} (ht:x0*y0≤0) (h1:0<x1*y1) (hd:0<(y0 - x0)*x1) (h:Reg x1 y1 l) :
  vs 0 (x0::x1::l.map (·.1))=vs 0 (y0::y1::l.map (·.2))+if x0=0 then 0 else 1:=by
 have e:=reg_vs h h1
 have n1:x1≠0:=fun e=>by rw [e,Int.zero_mul] at h1; omega
 have n2:y1≠0:=fun e=>by rw [e,Int.mul_zero] at h1; omega
 simp only [vs,Int.mul_zero]
 rw [if_neg n1,if_neg n2,if_neg n1,if_neg n2,e]
 have hx:x0*x1≤0∧0≤y0*y1:=by
  rcases Int.lt_trichotomy x1 0 with k | k | k
  ·have k1:y1<0:=Int.lt_of_not_ge fun k'=>by have:=Int.mul_nonpos_of_nonpos_of_nonneg (Int.le_of_lt k) k'; omega
   have k2:y0<x0:=Int.lt_of_not_ge fun k'=>by have:=Int.mul_nonpos_of_nonneg_of_nonpos (show 0≤y0 - x0 by omega) (Int.le_of_lt k); omega
   have k3:0≤x0:=Int.le_of_not_gt fun k'=>by have:=Int.mul_pos_of_neg_of_neg k' (show y0<0 by omega); omega
   have k4:y0≤0:=Int.le_of_not_gt fun k'=>by have:=Int.mul_pos (show 0<x0 by omega) k'; omega
   exact ⟨Int.mul_nonpos_of_nonneg_of_nonpos k3 (Int.le_of_lt k),Int.mul_nonneg_of_nonpos_of_nonpos k4 (Int.le_of_lt k1)⟩
  ·exact absurd k n1
  ·have k1:0<y1:=Int.lt_of_not_ge fun k'=>by have:=Int.mul_nonpos_of_nonneg_of_nonpos (Int.le_of_lt k) k'; omega
   have k2:x0<y0:=Int.lt_of_not_ge fun k'=>by have:=Int.mul_nonpos_of_nonpos_of_nonneg (show y0 - x0≤0 by omega) (Int.le_of_lt k); omega
   have k3:x0≤0:=Int.le_of_not_gt fun k'=>by have:=Int.mul_pos k' (show 0<y0 by omega); omega
   have k4:0≤y0:=Int.le_of_not_gt fun k'=>by have:=Int.mul_pos_of_neg_of_neg (show x0<0 by omega) k'; omega
   exact ⟨Int.mul_nonpos_of_nonpos_of_nonneg k3 (Int.le_of_lt k),Int.mul_nonneg k4 (Int.le_of_lt k1)⟩
 have hy':¬ y1*y0<0:=by rw [Int.mul_comm]; omega
 have hX:(if x0=0 then (if x1*0<0 then 1 else 0)+vs y1 (l.map (·.2)) else (if x0*0<0 then 1 else 0)+((if x1*x0<0 then 1 else 0)+vs y1 (l.map (·.2))))=vs y1 (l.map (·.2))+if x0=0 then 0 else 1:=by
  by_cases h0:x0=0
  ·simp [h0]
  ·have:x1*x0<0:=by
    have h2:x1*x0≠0:=Int.mul_ne_zero n1 h0
    rw [Int.mul_comm] at h2 ⊢; omega
   simp [h0,this]; omega
 simp only [Int.mul_zero] at hX
 rw [hX]
 congr 1
 by_cases h0:y0=0
 ·simp [h0]
 ·simp [h0,hy']
structure Chain (L:Nat→List Int) (r:Nat):Prop where
 one:1≤r→L 1=pder (L 0)
 rel:∀ i,i+1<r→∃ α β q,0<α∧0<β∧∀ x,α*pev (L i) x=pev q x*pev (L (i+1)) x - β*pev (L (i+2)) x
 last:∃ k,k≠0∧L r=[k]
theorem Chain.bez {L:Nat→List Int} {r:Nat} (h:Chain L r):∀ (e i:Nat),i+e+1=r→∃ U V R,R≠0∧∀ x,pev U x*pev (L i) x+pev V x*pev (L (i+1)) x=R
 | 0,i,hi=>by
  obtain ⟨k,hk,e⟩:=h.last
  refine ⟨[],[1],k,hk,fun x=>?_⟩
  have:L (i+1)=[k]:=by rw [← e,← hi]
  rw [this]; simp [pev]
 | e+1,i,hi=>by
  obtain ⟨U,V,R,hR,hb⟩:=h.bez e (i+1) qN
  obtain ⟨α,β,q,hα,hβ,hr⟩:=h.rel i qN
  refine ⟨ptim (-α) V,padd (ptim β U) (pmul V q),β*R,Int.mul_ne_zero qN hR,fun x=>?_⟩
  have e1:=hb x
  have e2:=hr x
  rw [cS,fV,cS,bM,← e1]
  have:pev V x*(α*pev (L i) x)=pev V x*(pev q x*pev (L (i+1)) x - β*pev (L (i+2)) x):=by rw [e2]
  grind
theorem all_W {P:Nat→Nat→Prop}:∀ {r:Nat},(∀ i,i<r→∃ W,∀ w,W≤w→P i w)→∃ W,∀ w,W≤w→∀ i,i<r→P i w
 | 0,_=>⟨0,fun _ _ i hi=>by omega⟩
 | r+1,h=>by
  obtain ⟨W1,h1⟩:=all_W fun i (hi:i<r)=>h i qN
  obtain ⟨W2,h2⟩:=h r qN
  refine ⟨max W1 W2,fun w hw i hi=>?_⟩
  by_cases e:i=r
  ·rw [e]; exact h2 w qN
  ·exact h1 w qN i qN
def vl (L:Nat→List Int) (w:Nat) (u:Int):Nat→Nat→List (Int×Int)
 | _,0=>[]
 | i,e+1=>(gh (L i) w u,gh (L i) w (u+1))::vl L w u (i+1) e
def vh (L:Nat→List Int) (w:Nat) (u:Int):Nat→Nat→List Int
 | _,0=>[]
 | i,e+1=>gh (L i) w u::vh L w u (i+1) e
theorem vl_fst (L:Nat→List Int) (w:Nat) (u:Int):∀ (e i:Nat),(vl L w u i e).map (·.1)=vh L w u i e
 | 0,_=>rfl
 | e+1,i=>by simp only [vl,vh,List.map_cons,vl_fst L w u e (i+1)]
theorem vl_snd (L:Nat→List Int) (w:Nat) (u:Int):∀ (e i:Nat),(vl L w u i e).map (·.2)=vh L w (u+1) i e
 | 0,_=>rfl
 | e+1,i=>by simp only [vl,vh,List.map_cons,vl_snd L w u e (i+1)]
theorem Chain.cell {L:Nat→List Int} {r:Nat} (h:Chain L r) (M:Nat):∃ W,∀ w,W≤w→∀ u:Int,u.natAbs≤M*w →
  (¬ tch (L 0) w u→vs 0 (vh L w u 0 (r+1))=vs 0 (vh L w (u+1) 0 (r+1))) ∧
  (tch (L 0) w u→vs 0 (vh L w u 0 (r+1))=vs 0 (vh L w (u+1) 0 (r+1))+(if gh (L 0) w u=0 then 0 else 1)∧gh (L 0) w u≠gh (L 0) w (u+1)):=by
 have hA:∀ i,i<r→∃ W,∀ w,W≤w→∀ u:Int,u.natAbs≤M*w→tch (L i) w u →
   (0<gh (L (i+1)) w u*gh (L (i+1)) w (u+1))∧(∀ j,i=j+1→gh (L j) w u*gh (L (i+1)) w u<0)∧(i=0→0<(gh (L 0) w (u+1) - gh (L 0) w u)*gh (L 1) w u):=fun i hi=>by
  obtain ⟨U,V,R,hR,hb⟩:=h.bez (r - i - 1) i qN
  obtain ⟨W1,h1⟩:=touch_far hR hb M
  cases i with
  | zero =>
   have e1:=h.one qN
   obtain ⟨W2,h2⟩:=der_go (L 0) M (2*gC M V)
   refine ⟨max W1 W2,fun w hw u hu ht=>?_⟩
   obtain ⟨a1,a2⟩:=h1 w qN u hu ht
   refine ⟨a2,fun j hj=>by omega,fun _=>?_⟩
   rw [e1]
   rw [Nat.zero_add,e1] at a1
   exact h2 w qN u hu a1
  | succ j =>
   obtain ⟨α,β,q,hα,hβ,hr⟩:=h.rel j qN
   obtain ⟨W2,h2⟩:=rel_opp hα hβ hr M (2*gC M V)
   refine ⟨max W1 W2,fun w hw u hu ht=>?_⟩
   obtain ⟨a1,a2⟩:=h1 w qN u hu ht
   refine ⟨a2,fun j' hj=>?_,fun h0=>by omega⟩
   obtain rfl:j=j':=by omega
   exact h2 w qN u hu ht a1
 obtain ⟨W,hW⟩:=all_W (P:=fun i w=>∀ u:Int,u.natAbs≤M*w→tch (L i) w u →
   (0<gh (L (i+1)) w u*gh (L (i+1)) w (u+1))∧(∀ j,i=j+1→gh (L j) w u*gh (L (i+1)) w u<0)∧(i=0→0<(gh (L 0) w (u+1) - gh (L 0) w u)*gh (L 1) w u)) hA
 refine ⟨max W 1,fun w hw u hu=>?_⟩
 have hw1:1≤w:=by omega
 have hlast:¬ tch (L r) w u:=fun ht=>by
  obtain ⟨k,hk,e⟩:=h.last
  unfold tch at ht
  rw [e] at ht
  simp only [gh,List.length_nil,Int.mul_zero,Int.add_zero] at ht
  have h1:k*(w:Int)^(0+1)≠0:=Int.mul_ne_zero hk (Int.pow_ne_zero qN)
  have h2:=Int.mul_self_nonneg' (k*(w:Int)^(0+1))
  have h3:=Int.mul_ne_zero h1 h1
  omega
 have reg:∀ (e i:Nat),i+e=r→¬ tch (L i) w u→Reg (gh (L i) w u) (gh (L i) w (u+1)) (vl L w u (i+1) e):=fun e=>by
  induction e using Nat.strongRecOn with
  | ind e ih =>
   intro i hi ht
   cases e with
   | zero=>exact .nil
   | succ e =>
    by_cases ht1:tch (L (i+1)) w u
    ·have hne:i+1≠r:=fun e'=>hlast (e' ▸ ht1)
     obtain ⟨e,rfl⟩:∃ e',e=e'+1:=⟨e - 1,by omega⟩
     obtain ⟨a1,a2,_⟩:=hW w qN (i+1) qN u hu ht1
     exact .jump (a2 i rfl) a1 (ih e qN (i+2) qN (by unfold tch; show ¬ gh (L (i+1+1)) w u*gh (L (i+1+1)) w (u+1)≤0; omega))
    ·exact .go (by unfold tch at ht1; omega) (ih e qN (i+1) qN ht1)
 constructor
 ·intro ht
  have h1:=reg_vs (reg r 0 qN ht) (by unfold tch at ht; omega)
  rw [vl_fst,vl_snd] at h1
  have n1:gh (L 0) w u≠0:=fun e=>ht (by unfold tch; rw [e,Int.zero_mul]; exact Int.le_refl _)
  have n2:gh (L 0) w (u+1)≠0:=fun e=>ht (by unfold tch; rw [e,Int.mul_zero]; exact Int.le_refl _)
  simp only [vh,vs,Int.mul_zero]
  rw [if_neg n1,if_neg n2,h1]
 ·intro ht
  have hr0:0<r:=Nat.pos_of_ne_zero fun e=>hlast (by rw [e]; exact ht)
  obtain ⟨a1,_,a3⟩:=hW w qN 0 hr0 u hu ht
  have a3:=a3 rfl
  have hne:gh (L 0) w u≠gh (L 0) w (u+1):=fun e=>by rw [e,Int.sub_self,Int.zero_mul] at a3; omega
  refine ⟨?_,hne⟩
  obtain ⟨r',rfl⟩:∃ r',r=r'+1:=⟨r - 1,by omega⟩
  have h1:=reg_head ht a1 a3 (reg r' 1 qN (by unfold tch; simp only [Nat.zero_add] at a1; omega))
  rw [vl_fst,vl_snd] at h1
  exact h1
where
 Int.mul_self_nonneg' (x:Int):0≤x*x:=by
  rcases Int.le_total 0 x with h | h
  ·exact Int.mul_nonneg h h
  ·exact Int.mul_nonneg_of_nonpos_of_nonpos h h
def vx (L:Nat→List Int) (x:Int):Nat→Nat→List Int
 | _,0=>[]
 | i,e+1=>pev (L i) x::vx L x (i+1) e
def sV (L:Nat→List Int) (r:Nat) (x:Int):Nat:=vs 0 (vx L x 0 (r+1))
theorem vs_scale (L:Nat→List Int) {w:Nat} (hw:1≤w) (x:Int):∀ (e i:Nat) (t t':Int),(t=0∧t'=0)∨0<t*t'→vs t (vh L w ((w:Int)*x) i e)=vs t' (vx L x i e)
 | 0,_,_,_,_=>rfl
 | e+1,i,t,t',ht=>by
  have hp:(0:Int)<(w:Int)^(L i).length:=Int.pow_pos qN
  simp only [vh,vx,vs]
  rw [gh_at]
  generalize (w:Int)^(L i).length=a at *
  generalize pev (L i) x=y at *
  by_cases h0:y=0
  ·rw [if_pos h0,if_pos (by rw [h0,Int.mul_zero])]
   exact vs_scale L hw x e (i+1) t t' ht
  ·have h1:a*y≠0:=Int.mul_ne_zero qN h0
   rw [if_neg h0,if_neg h1]
   have hyy:0<a*y*y:=by
    rw [Int.mul_assoc]
    rcases Int.lt_trichotomy y 0 with k | k | k
    ·exact Int.mul_pos hp (Int.mul_pos_of_neg_of_neg k k)
    ·exact absurd k h0
    ·exact Int.mul_pos hp (Int.mul_pos k k)
   rw [vs_scale L hw x e (i+1) (a*y) y (.inr hyy)]
   congr 1
   rcases ht with ⟨h2,h3⟩ | h2
   ·rw [h2,h3,Int.mul_zero,Int.mul_zero]
   ·have key:a*y*t<0↔y*t'<0:=by
     have e1:(a*y*t)*(y*t')=(a*y*y)*(t*t'):=by grind
     have hpp:0<(a*y*t)*(y*t'):=by rw [e1]; exact Int.mul_pos hyy h2
     constructor
     ·intro h; exact Int.lt_of_not_ge fun k=>by have:=Int.mul_nonpos_of_nonpos_of_nonneg (Int.le_of_lt h) k; omega
     ·intro h; exact Int.lt_of_not_ge fun k=>by have:=Int.mul_nonpos_of_nonneg_of_nonpos k (Int.le_of_lt h); omega
    by_cases k:a*y*t<0
    ·rw [if_pos k,if_pos (key.1 k)]
    ·rw [if_neg k,if_neg fun k'=>k (key.2 k')]
theorem sV_grid (L:Nat→List Int) (r:Nat) {w:Nat} (hw:1≤w) (x:Int):vs 0 (vh L w ((w:Int)*x) 0 (r+1))=sV L r x:=vs_scale L hw x (r+1) 0 0 0 (.inl ⟨rfl,rfl⟩)
def nc (s:List Int) (w:Nat) (u:Int):Nat→Nat
 | 0=>0
 | e+1=>nc s w u e+if gh s w (u+e)*gh s w (u+e+1)≤0∧gh s w (u+e)≠0 then 1 else 0
theorem Chain.sturm {L:Nat→List Int} {r:Nat} (h:Chain L r) (M:Nat):∃ W,1≤W∧∀ w,W≤w→(∀ (a:Int) (d:Nat),a.natAbs+d≤M→sV L r a=sV L r (a+d)+nc (L 0) w ((w:Int)*a) (w*d)) ∧
  ∀ u:Int,u.natAbs≤M*w→tch (L 0) w u→gh (L 0) w u≠gh (L 0) w (u+1):=by
 obtain ⟨W,hW⟩:=h.cell M
 refine ⟨max W 1,by omega,fun w hw=>⟨fun a d had=>?_,fun u hu ht=>((hW w qN u hu).2 ht).2⟩⟩
 have hw1:1≤w:=by omega
 have key:∀ e,e≤w*d→vs 0 (vh L w ((w:Int)*a) 0 (r+1))=vs 0 (vh L w ((w:Int)*a+e) 0 (r+1))+nc (L 0) w ((w:Int)*a) e:=fun e=>by
  induction e with
  | zero=>intro _; simp [nc]
  | succ e ih =>
   intro he
   have ih:=ih qN
   have hu:((w:Int)*a+e).natAbs≤M*w:=by
    have h1:=Int.natAbs_add_le ((w:Int)*a) (e:Int)
    rw [Int.natAbs_mul,Int.natAbs_natCast,Int.natAbs_natCast] at h1
    have h2:w*(a.natAbs+d)≤w*M:=Nat.mul_le_mul_left _ had
    rw [Nat.mul_add,Nat.mul_comm w M] at h2
    omega
   obtain ⟨c1,c2⟩:=hW w qN _ hu
   rw [ih,nc]
   have e1:(w:Int)*a+((e+1:Nat):Int)=(w:Int)*a+e+1:=by omega
   rw [e1]
   by_cases ht:tch (L 0) w ((w:Int)*a+e)
   ·rw [(c2 ht).1]
    by_cases h0:gh (L 0) w ((w:Int)*a+e)=0
    ·rw [if_pos h0,if_neg fun h'=>h'.2 h0]; omega
    ·rw [if_neg h0,if_pos ⟨ht,h0⟩]; omega
   ·rw [c1 ht,if_neg fun h'=>ht h'.1]; omega
 have h1:=key (w*d) (Nat.le_refl _)
 rw [sV_grid L r hw1] at h1
 have e2:(w:Int)*a+((w*d:Nat):Int)=(w:Int)*(a+d):=by rw [Int.natCast_mul]; grind
 rw [e2,sV_grid L r hw1] at h1
 exact h1
theorem Chain.less {L:Nat→List Int} {r:Nat} (h:Chain L r) {a b:Int} (hab:a<b):sV L r b+(if pev (L 0) b=0 then 1 else 0)≤sV L r a:=by
 obtain ⟨d,hd⟩:∃ d:Nat,b=a+d:=⟨(b - a).toNat,by omega⟩
 have hd0:0<d:=by omega
 obtain ⟨W,hW1,hW⟩:=h.sturm (a.natAbs+d)
 obtain ⟨s1,s2⟩:=hW W (Nat.le_refl _)
 rw [hd,s1 a d (Nat.le_refl _)]
 split
 ·rename_i h0
  obtain ⟨e,he⟩:∃ e,W*d=e+1:=⟨W*d - 1,by have:=Nat.mul_pos (show 0<W by omega) hd0; omega⟩
  rw [he,nc]
  have e1:(W:Int)*a+e+1=(W:Int)*(a+d):=by
   have:((W*d:Nat):Int)=(e:Int)+1:=by rw [he]; rfl
   rw [Int.natCast_mul] at this
   rw [Int.mul_add]; omega
  have e2:gh (L 0) W ((W:Int)*a+e+1)=0:=by rw [e1,gh_at,h0,Int.mul_zero]
  have hu:((W:Int)*a+e).natAbs≤(a.natAbs+d)*W:=by
   have h1:=Int.natAbs_add_le ((W:Int)*a) (e:Int)
   rw [Int.natAbs_mul,Int.natAbs_natCast,Int.natAbs_natCast] at h1
   have h2:(a.natAbs+d)*W=W*a.natAbs+W*d:=by grind
   omega
  have ht:tch (L 0) W ((W:Int)*a+e):=by unfold tch; rw [e2,Int.mul_zero]; exact Int.le_refl _
  have hne:=s2 _ hu ht
  rw [e2] at hne
  rw [if_pos ⟨by rw [e2,Int.mul_zero]; exact Int.le_refl _,hne⟩]
  omega
 ·omega
theorem vs_par:∀ (l:List Int) (t k:Int),t≠0→k≠0→vs t (l++[k])%2=if t*k<0 then 1 else 0
 | [],t,k,ht,hk=>by
  simp only [List.nil_append,vs]
  rw [if_neg hk,Int.mul_comm k t]
  by_cases h:t*k<0
  ·simp [h]
  ·simp [h]
 | x::l,t,k,ht,hk=>by
  simp only [List.cons_append,vs]
  by_cases h0:x=0
  ·rw [if_pos h0]; exact vs_par l t k ht hk
  ·rw [if_neg h0]
   have ih:=vs_par l x k h0 hk
   have key:t*k<0↔(x*t<0↔¬ x*k<0):=by
    have n1:=Int.mul_ne_zero h0 ht
    have n2:=Int.mul_ne_zero h0 hk
    have n3:=Int.mul_ne_zero ht hk
    have hxx:0<x*x:=by
     rcases Int.lt_trichotomy x 0 with k | k | k
     ·exact Int.mul_pos_of_neg_of_neg k k
     ·exact absurd k h0
     ·exact Int.mul_pos k k
    have e:(x*t)*(x*k)=(x*x)*(t*k):=by grind
    constructor
    ·intro h
     have h1:(x*t)*(x*k)<0:=by rw [e]; exact Int.mul_neg_of_pos_of_neg hxx h
     constructor
     ·intro h2 h3; have:=Int.mul_pos_of_neg_of_neg h2 h3; omega
     ·intro h2
      have h3:0<x*k:=by omega
      exact Int.lt_of_not_ge fun k'=>by have:=Int.mul_nonneg k' (Int.le_of_lt h3); omega
    ·intro h
     refine Int.lt_of_not_ge fun h'=>?_
     have h1:0<(x*t)*(x*k):=by rw [e]; exact Int.mul_pos hxx qN
     by_cases h2:x*t<0
     ·have h3:=h.1 h2
      have:=Int.mul_nonpos_of_nonpos_of_nonneg (Int.le_of_lt h2) (show 0≤x*k by omega)
      omega
     ·have h3:x*k<0:=Classical.byContradiction fun h3=>h2 (h.2 h3)
      have:=Int.mul_nonpos_of_nonneg_of_nonpos (show 0≤x*t by omega) (Int.le_of_lt h3)
      omega
   by_cases h1:x*t<0 <;> by_cases h2:x*k<0 <;> by_cases h3:t*k<0 <;> simp [h1,h2,h3] at key ih ⊢ <;> omega
open Go.RowKit
theorem vA {P:Program} {t e:TypeId} {v:Value} {m:List (List Int)} {k:IntKind} {i:Int} {os:List Own} {fs:List bI} {K:cC} [ht:TSl P t e 1] (hm:(v,wd m)∈fs) (j:Nat) (hj:i=(j:Int)) (hlt:j<m.length)
  (k':∀ p,K p os ((p,.ptr (vd (m.getD j [])))::fs)):e9 P t v (.int k i) os fs K :=
 aK hm j hj (by rw [List.length_map]; exact hlt) fun p=>by
  have:=k' p
  unfold vd at this
  rwa [← rY] at this
theorem vB {P:Program} {t e:TypeId} {v:Value} {l:List Int} {k:IntKind} {i:Int} {os:List Own} {fs:List bI} {K:cC} [ht:TSl P t e 2] (hm:(v,vd l)∈fs) (j:Nat) (hj:i=(j:Int)) (hlt:j<l.length)
  (k':∀ p,K p os ((p,.ptr (zd (l.getD j 0)))::fs)):e9 P t v (.int k i) os fs K :=
 aK hm j hj (by rw [List.length_map]; exact hlt) fun p=>by
  have:=k' p
  rw [eZ hlt]; exact this
theorem len_wd {P:Program} {t e ty:TypeId} {v:Value} {m:List (List Int)} {os:List Own} {fs:List bI} {K:cC} [ht:TSl P t e 1] (hm:(v,wd m)∈fs) (k:K (.int .i64 m.length) os fs):LenK P [t] ty v os fs K :=
 aO hm fun _=>by rw [List.length_map]; exact k
theorem gH {P:Program} {t e ty:TypeId} {v:Value} {l:List Int} {os:List Own} {fs:List bI} {K:cC} [ht:TSl P t e 2] (hm:(v,vd l)∈fs) (k:K (.int .i64 l.length) os fs):LenK P [t] ty v os fs K :=
 aO hm fun _=>by rw [List.length_map]; exact k
theorem rMulZJ (v w:Value) (x:Int) (y:Bool×List Nat) (e:Nat) (hx:sz x e) (he:e≤137438953472) (hy:Lim y.2) (ly:y.2.length≤137438953472) :
  Meets Tryz.prog 41 [v,w] [(v,zd x),(w,J y)] (fun r os fs=>os=[]∧fs=[(r,zd (x*jv y))]):=by
 have h:=pY v w (decide (x<0)) y.1 (bQ x.natAbs) y.2 (aY _) hy (Nat.le_trans hx.len he) ly
 rw [jT] at h
 exact h
theorem Meets.closed {P:Program} {g:FuncId} {args:List Value} {fs:List bI} {R R':Value→List Own→List bI→Prop} (h:Meets P g args fs R)
  (hr:∀ v os fs,R v os fs→∃ os' fs',R' v os' fs'∧Seals os fs os' fs'):Meets P g args fs R':=by
 refine ⟨h.enter,fun A w hA hf=>(h.calls A w hA hf).mono ?_⟩
 rintro e w' ⟨v,os',fs',he,hv,hh⟩
 obtain ⟨os2,fs2,h2,hs⟩:=hr v os' fs' hv
 exact ⟨v,os2,fs2,he,h2,hs _ _ hh⟩
theorem nrm_take {l:List Int} {n:Nat} (hn:n≤l.length) (hz:∀ j,n≤j→l.getD j 0=0) (h:n=0∨l.getD (n - 1) 0≠0):nrm l=l.take n:=by
 have e:nrm l=nrm (l.take n):=lO fun i=>by
  by_cases hi:i<n
  ·simp [gE,List.getElem?_take_of_lt hi]
  ·rw [hz i qN]
   have:(l.take n).length≤i:=by rw [List.length_take]; omega
   rw [gE,List.getElem?_eq_none this]; rfl
 rw [e]
 refine wM ?_
 have hl:(l.take n).length=n:=by rw [List.length_take]; omega
 rcases h with h | h
 ·left; rw [h]; rfl
 ·by_cases h0:n=0
  ·left; rw [h0]; rfl
  ·right
   rw [hl]
   simpa [gE,List.getElem?_take_of_lt (show n - 1<n by omega)] using h
theorem take_range (l:List Int) {n:Nat} (h:n≤l.length):l.take n=(List.range n).map fun i=>l.getD i 0:=by
 refine ext_getD' (by rw [List.length_take]; simp; omega) fun i hi=>?_
 rw [List.length_take] at hi
 have:i<n:=by omega
 simp [gE,List.getElem?_take_of_lt this,this]
where
 ext_getD' {l m:List Int} (hl:l.length=m.length) (h:∀ i,i<l.length→l.getD i 0=m.getD i 0):l=m:=eX 0 hl h
theorem Seals.told {v:Value} {n:Nat} {g:Nat→Int} {e:Nat→Dat} {os:List Own} {fs:List bI} (hv:isSl v) (he:∀ i,i<n→e i=zd (g i)) :
  Seals (bK v 2 n e::os) fs os ((v,vd ((List.range n).map g))::fs) :=
 aC (Seals.slice (os:=bK v 2 n e::os) 0 (fun i=>J ((((List.range n).map g).map cn).getD i z0)) rfl hv fun i hi=>by rw [he i hi,range_cn g hi]; rfl)
  (bA (Knw.vd_of (a9 (List.Mem.head _))) (aA fun _ hF=>.tail _ hF))
theorem Seals.toldL {v:Value} {l:List Int} {os:List Own} {fs:List bI} (hv:isSl v):Seals (i8 2 J z0 v (l.map cn)::os) fs os ((v,vd l)::fs):=Seals.L (os:=i8 2 J z0 v (l.map cn)::os) 0 rfl hv
theorem own_range {v:Value} {n:Nat} {g:Nat→Int} {e:Nat→Dat} {os:List Own} {fs:List bI} (he:∀ i,i<n→e i=zd (g i)) :
  Seals (bK v 2 n e::os) fs (i8 2 J z0 v (((List.range n).map g).map cn)::os) fs:=by
 have h:=Seals.own_cong (os:=bK v 2 n e::os) (fs:=fs) 0 (n':=(((List.range n).map g).map cn).length) (fun i=>J ((((List.range n).map g).map cn).getD i z0)) rfl qP fun i hi=>by rw [he i hi,range_cn g hi]; rfl
 exact h
theorem vF:I false []=zd 0:=zd_zero.symm
theorem upd_if {g:Nat→Int} {i:Nat} (y:Nat):upd (fun y=>if y<i then zd (g y) else I false []) i (zd (g i)) y=if y<i+1 then zd (g y) else I false []:=by
 unfold upd
 by_cases hy:y=i
 ·subst hy
  rw [if_pos rfl,if_pos qN]
 ·by_cases hy2:y<i
  ·rw [if_neg hy,if_pos (show y<i+1 by omega)]; exact if_pos hy2
  ·rw [if_neg hy,if_neg (show ¬ y<i+1 by omega)]; exact if_neg hy2
theorem kI (v:Value) (p:Row) (hp:Fit 137438953472 p) (lp:p.length≤1099511627776) :
  Meets Tryz.prog 55 [v] [(v,V p)] (fun r os fs=>isSl r∧os=[i8 2 J z0 r ((nrm (vv p)).map cn)]∧fs=[]):=by
 refine mV Tryz.func55 ?_
 refine aO qM fun _=>?_
 refine aT (X:=Nat) (fun n=>([(0,v),(3,.int .i64 (n:Nat))],[],[(v,V p)])) (fun n=>n≤p.length∧∀ j,n≤j→j<p.length→(vv p).getD j 0=0) (fun n=>n) rfl ?_ ?_
 ·exact aU p.length ⟨Nat.le_refl _,fun j h1 h2=>by omega⟩ trivial qF (aA qS)
 ·rintro n ⟨h1,h2⟩
  have fin':(n=0∨(vv p).getD (n - 1) 0≠0)→nrm (vv p)=(List.range n).map fun i=>(vv p).getD i 0:=fun h=>by
   rw [nrm_take (by rw [cP]; exact h1) (fun j hj=>?_) h,take_range _ (by rw [cP]; exact h1)]
   by_cases e:j<p.length
   ·exact h2 j hj e
   ·rw [gE,List.getElem?_eq_none (by rw [cP]; omega)]; rfl
  refine aE _ rfl (fun hn=>?_) (fun hn=>?_)
  ·have hn':n - 1<p.length:=by omega
   have hg:=l9 p (n - 1) hn'
   refine ar rfl qI ?_
   refine aK qM (n - 1) qN hn' fun a1=>?_
   refine aM (d:=J (p.getD (n - 1) z0)) qM (a8 _) fun x1=>?_
   refine cH (dH x1 (p.getD (n - 1) z0).1 (p.getD (n - 1) z0).2 (hp.get _).1 (hp.get _).2) ?_
   refine aE _ rfl (fun hz=>?_) (fun hz=>?_)
   ·refine ar rfl qI ?_
    refine aU (n - 1) ⟨by omega,fun j h3 h4=>?_⟩ (by simp only; omega) qF (aA qS)
    by_cases e:j=n - 1
    ·rw [e,hg]; exact Int.sign_eq_zero_iff_zero.1 hz
    ·exact h2 j qN h4
   ·have hfin:=fin' (.inr (by rw [hg]; exact fun e=>hz (Int.sign_eq_zero_iff_zero.2 e)))
    refine fB (t:=23) (d:=I false []) n rfl rfl qN qN fun u hu=>?_
    refine aT (X:=Nat) (fun i=>([(0,v),(3,.int .i64 (n:Nat)),(4,u),(23,.int .i64 (n:Nat)),(24,.int .i64 (i:Nat))],[bK u 2 n (fun y=>if y<i then zd ((vv p).getD y 0) else I false [])],[(v,V p)])) (fun i=>i≤n) (fun i=>n - i) rfl ?_ ?_
    ·exact aU 0 (Nat.zero_le _) trivial qF (aC (Seals.own_cong (os:=[_]) 0 _ rfl rfl fun y _=>(if_neg (Nat.not_lt_zero _)).symm) (aA qS))
    ·rintro i hi
     refine aE _ rfl (fun hlt=>?_) (fun hlt=>?_)
     ·have hin:i<n:=by omega
      have hpi:=hp.get i
      have hgi:=l9 p i qN
      refine aK (n:=p.length) qM i rfl qN fun b1=>?_
      refine aM (d:=J (p.getD i z0)) qM (a8 _) fun y1=>?_
      have hnm:=jX y1 (p.getD i z0).1 (p.getD i z0).2 hpi.1 qN
      rw [show iv (p.getD i z0).1 (p.getD i z0).2=(vv p).getD i 0 from hgi.symm] at hnm
      refine cG hnm fun y2=>?_
      refine aI 0 rfl hu i rfl hin ?_
      refine c9 (bP (d:=zd ((vv p).getD i 0)) 0 rfl i hin rfl qK (aB qM) ⟨_,_,Seals.own_cong (os:=[_]) 0 (fun y=>if y<i+1 then zd ((vv p).getD y 0) else I false []) rfl rfl (fun y _=>upd_if y),?_⟩)
      refine ar rfl qI ?_
      exact aU (i+1) qN (by simp only; omega) qF (aA qS)
     ·refine fin ⟨hu,rfl,rfl⟩ (aC (own_range (g:=fun i=>(vv p).getD i 0) fun y hy=>if_pos qN) ?_)
      rw [hfin]
      exact aL _ _
  ·have hfin:=fin' (.inl qN)
   refine fB (t:=23) (d:=I false []) n rfl rfl qN qN fun u hu=>?_
   refine aT (X:=Nat) (fun i=>([(0,v),(3,.int .i64 (n:Nat)),(4,u),(23,.int .i64 (n:Nat)),(24,.int .i64 (i:Nat))],[bK u 2 n (fun y=>if y<i then zd ((vv p).getD y 0) else I false [])],[(v,V p)])) (fun i=>i≤n) (fun i=>n - i) rfl ?_ ?_
   ·exact aU 0 (Nat.zero_le _) trivial qF (aC (Seals.own_cong (os:=[_]) 0 _ rfl rfl fun y _=>(if_neg (Nat.not_lt_zero _)).symm) (aA qS))
   ·rintro i hi
    refine aE _ rfl (fun hlt=>?_) (fun hlt=>?_)
    ·have hin:i<n:=by omega
     have hpi:=hp.get i
     have hgi:=l9 p i qN
     refine aK (n:=p.length) qM i rfl qN fun b1=>?_
     refine aM (d:=J (p.getD i z0)) qM (a8 _) fun y1=>?_
     have hnm:=jX y1 (p.getD i z0).1 (p.getD i z0).2 hpi.1 qN
     rw [show iv (p.getD i z0).1 (p.getD i z0).2=(vv p).getD i 0 from hgi.symm] at hnm
     refine cG hnm fun y2=>?_
     refine aI 0 rfl hu i rfl hin ?_
     refine c9 (bP (d:=zd ((vv p).getD i 0)) 0 rfl i hin rfl qK (aB qM) ⟨_,_,Seals.own_cong (os:=[_]) 0 (fun y=>if y<i+1 then zd ((vv p).getD y 0) else I false []) rfl rfl (fun y _=>upd_if y),?_⟩)
     refine ar rfl qI ?_
     exact aU (i+1) qN (by simp only; omega) qF (aA qS)
    ·refine fin ⟨hu,rfl,rfl⟩ (aC (own_range (g:=fun i=>(vv p).getD i 0) fun y hy=>if_pos qN) ?_)
     rw [hfin]
     exact aL _ _
theorem dC {v:Value} {l:List Int} {os:List Own} {fs:List bI} (hv:isSl v):Seals (i8 2 J z0 v (l.map cn)::os) fs os ((v,vd l)::fs):=Seals.toldL hv
theorem info_psl:(Tryz.prog.info? 23).map (fun i=>(i.zero,i.size,i.bytes))=some (some (.slice none 0 0),1,24):=by kernel_rfl
instance iCPb1:TEl Tryz.prog 23 1 24:=tel info_psl rfl qE
instance iCPb2:TSl Tryz.prog 109 23 1:=⟨Tryz.underlying109,by kernel_rfl⟩
theorem lit2_L {α:Type} {P:Program} {t e:TypeId} {size bytes:Nat} {os:List Own} {fs:List bI} {K:cC} [ht:TSl P t e size] [he:TEl P e size bytes] {x y:Value} (f:α→Dat) (z:α) (a b:α) (hsz:size≤16) (hx:Reads os fs x (f a)) (hy:Reads os fs y (f b)) (hc:(f a).cells=size) (hc':(f b).cells=size)
  (k:∀ v,K v os ((v,LD size f z [a,b])::fs)):BuildSliceK P t 2 [(0,x),(1,y)] os fs K:=by
 have h1:=cV (P:=P) (t:=t) (os:=os) (fs:=fs) (K:=fun u os' fs'=>∃ os'' fs'',Seals os' fs' os'' fs''∧K u os'' fs'') (n:=2) [x,y] [f a,f b] rfl rfl qE hsz ⟨hx,hc,hy,hc',trivial⟩
 refine ⟨Grw.sealed (h1 fun v=>⟨_,_,?_,k v⟩).out⟩
 exact Seals.knw_cong rfl fun i hi=>by
  have:i=0∨i=1:=by omega
  rcases this with rfl | rfl <;> rfl
theorem fR (v:Value) (p:Row) (hp:Fit 137438953472 p) (lp:p.length≤1099511627776) :
  Meets Tryz.prog 55 [v] [(v,V p)] (fun r os fs=>os=[]∧fs=[(r,vd (nrm (vv p)))]) :=
 (kI v p hp lp).closed fun r os fs ⟨h1,h2,h3⟩=>⟨_,_,⟨rfl,rfl⟩,by
  subst h2 h3
  exact dC h1⟩
theorem szR.fit {k:Nat} {l:List Int} (h:szR k l):Fit k (l.map cn):=Fit_cn h
theorem szR.mono {k k':Nat} {l:List Int} (h:szR k l) (hk:k≤k'):szR k' l:=fun x hx=>(h x hx).mono hk
theorem szR.get {k:Nat} {l:List Int} (h:szR k l) (i:Nat):sz (l.getD i 0) k:=by
 by_cases hi:i<l.length
 ·exact h _ (cR 0 hi)
 ·rw [fM qN]; exact lH _
theorem Fit.szR {k:Nat} {p:Row} (h:Fit k p):Go.Proofs.YtjebljkoiaojaaaGreat.szR k (vv p):=fun x hx=>by
 obtain ⟨y,hy,rfl⟩:=List.mem_map.1 hx
 exact fZ (h y hy).1 (h y hy).2
theorem mem_nrm {l:List Int} {x:Int} (h:x∈nrm l):x∈l:=by
 induction l with
 | nil=>exact h
 | cons c l ih =>
  rw [fY] at h
  split at h
  ·simp at h
  ·rcases List.mem_cons.1 h with rfl | h
   ·exact .head _
   ·exact .tail _ (ih h)
theorem szR.nrm {k:Nat} {l:List Int} (h:szR k l):szR k (nrm l):=fun x hx=>h x (mem_nrm hx)
theorem szR.lst {k n:Nat} {f:Nat→Int} (h:∀ i,i<n→sz (f i) k):szR k (lst n f):=fun x hx=>by
 obtain ⟨i,hi,rfl⟩:=mem_lst hx
 exact h i hi
theorem pNormT (v:Value) (l:List Int) (hl:szR 137438953472 l) (ll:l.length≤1099511627776) :
  Meets Tryz.prog 55 [v] [(v,vd l)] (fun r os fs=>os=[]∧fs=[(r,vd (nrm l))]):=by
 have h:=fR v (l.map cn) hl.fit (by rw [List.length_map]; exact ll)
 rw [fH] at h
 exact h
theorem pNormOT (v:Value) (l:List Int) (hl:szR 137438953472 l) (ll:l.length≤1099511627776) :
  Meets Tryz.prog 55 [v] [(v,vd l)] (fun r os fs=>isSl r∧os=[i8 2 J z0 r ((nrm l).map cn)]∧fs=[]):=by
 have h:=kI v (l.map cn) hl.fit (by rw [List.length_map]; exact ll)
 rw [fH] at h
 exact h
theorem pLead_meets (v:Value) (p:Row) :
  Meets Tryz.prog 121 [v] [(v,V p)] (fun r os fs=>os=[]∧fs=[(r,J (p.getD (p.length - 1) z0))]):=by
 refine mV Tryz.func121 ?_
 refine aH (d:=I false []) fun o ho=>?_
 refine aO qM fun _=>?_
 refine aE _ rfl (fun h=>?_) (fun h=>?_)
 ·have h0:p=[]:=List.length_eq_zero_iff.1 qN
  subst h0
  refine nT (da:=.one (.bool false)) (db:=U []) (fun S w=>⟨[.bool false],[.slice none 0 0],rfl,fL S w,iH S w 1 _⟩) fun z=>?_
  refine aF (d:=J z0) 0 rfl ho rfl qK ?_ ?_; exact aB qM
  refine aD (d:=J z0) 0 rfl ho rfl (a8 _) fun r=>?_
  exact fin ⟨rfl,rfl⟩ (dS (aA qS))
 ·refine aO qM fun _=>?_
  refine ar rfl qI ?_
  refine aK qM (p.length - 1) qN qN fun a1=>?_
  refine aM (d:=J (p.getD (p.length - 1) z0)) qM (a8 _) fun x1=>?_
  refine aF (d:=J (p.getD (p.length - 1) z0)) 0 rfl ho rfl qK ?_ ?_; exact aB qM
  refine aD (d:=J (p.getD (p.length - 1) z0)) 0 rfl ho rfl (a8 _) fun r=>?_
  exact fin ⟨rfl,rfl⟩ (dS (aA qS))
theorem pLeadT (v:Value) (l:List Int) (h0:l≠[]) :
  Meets Tryz.prog 121 [v] [(v,vd l)] (fun r os fs=>os=[]∧fs=[(r,zd (l.getD (l.length - 1) 0))]):=by
 have h:=pLead_meets v (l.map cn)
 have h1:0<l.length:=List.length_pos_iff.2 h0
 rw [List.length_map,eZ qN] at h
 exact h
theorem rai_0 (s:Nat) (c:Int) (g:Nat→Int) (y:Nat):I false []=zd (if y<s then 0 else if y<s+0 then c*g (y - s) else 0):=by
 rw [vF]
 congr 1
 by_cases h1:y<s
 ·rw [if_pos h1]
 ·rw [if_neg h1,if_neg qN]
theorem rai_n (s n:Nat) (c:Int) (g:Nat→Int) (y:Nat) (hy:y<s+n):zd (if y<s then 0 else if y<s+n then c*g (y - s) else 0)=zd (if y<s then 0 else c*g (y - s)):=by
 congr 1
 by_cases h1:y<s
 ·rw [if_pos h1,if_pos h1]
 ·rw [if_neg h1,if_neg h1,if_pos hy]
theorem upd_zd {G H:Nat→Int} {j:Nat} {v:Int} (h1:H j=v) (h2:∀ y,y≠j→G y=H y) (y:Nat):upd (fun y=>zd (G y)) j (zd v) y=zd (H y):=by
 unfold upd
 by_cases hy:y=j
 ·subst hy
  rw [if_pos rfl,h1]
 ·rw [if_neg hy]
  show zd (G y)=zd (H y)
  rw [h2 y hy]
theorem rai_s (s i:Nat) (c:Int) (g:Nat→Int) (y:Nat):upd (fun y=>zd (if y<s then 0 else if y<s+i then c*g (y - s) else 0)) (s+i) (zd (c*g i)) y=zd (if y<s then 0 else if y<s+(i+1) then c*g (y - s) else 0) :=
 upd_zd (G:=fun y=>if y<s then 0 else if y<s+i then c*g (y - s) else 0) (H:=fun y=>if y<s then 0 else if y<s+(i+1) then c*g (y - s) else 0) (by
  rw [if_neg qN,if_pos qN,Nat.add_sub_cancel_left]) (fun y hy=>by
  by_cases h1:y<s
  ·rw [if_pos h1,if_pos h1]
  ·rw [if_neg h1,if_neg h1]
   by_cases h2:y<s+i
   ·rw [if_pos h2,if_pos qN]
   ·rw [if_neg h2,if_neg qN]) y
theorem wJ (v w:Value) (p:Row) (cj:Bool×List Nat) (s:Nat) (k a:Nat) (hp:Fit k p) (hcl:Lim cj.2) (hca:cj.2.length≤a) (hk:k+a≤137438953472) (lp:p.length≤1073741824) (ls:s≤1073741824) :
  Meets Tryz.prog 120 [v,w,.int .i64 (s:Nat)] [(v,V p),(w,J cj)] (fun r os fs=>isSl r∧os=[i8 2 J z0 r ((prai (jv cj) s (vv p)).map cn)]∧fs=[]):=by
 have hc:sz (jv cj) a:=fZ hcl hca
 obtain ⟨c,hcj⟩:∃ c,jv cj=c:=⟨_,rfl⟩
 rw [hcj] at hc ⊢
 have hel:∀ i,i<p.length→sz (c*(vv p).getD i 0) (k+a):=fun i _=>by rw [Nat.add_comm]; exact hc.mul (hp.szR.get i)
 have hfin:prai c s (vv p)=nrm (lst (s+p.length) fun y=>if y<s then 0 else c*(vv p).getD (y - s) 0):=by
  unfold prai
  rw [show (vv p).map (fun y=>c*y)=lst p.length fun i=>c*(vv p).getD i 0 from ?_,up_lst]
  refine List.ext_getElem? fun i=>?_
  by_cases hi:i<p.length
  ·simp [lst,hi,cP,gE]
  ·simp [lst,hi,cP]
 have hszL:szR (k+a) (lst (s+p.length) fun y=>if y<s then 0 else c*(vv p).getD (y - s) 0):=szR.lst fun i hi=>by
  split
  ·exact lH _
  ·exact hel _ qN
 refine mV Tryz.func120 ?_
 refine iO (aB (d:=J cj) qM) fun q=>?_
 refine aO qM fun _=>?_
 refine ar rfl qI ?_
 refine fB (t:=23) (d:=I false []) (s+p.length) qN qN qN qN fun u hu=>?_
 refine aO qM fun _=>?_
 refine aT (X:=Nat) (fun i=>([(0,v),(2,.int .i64 (s:Nat)),(4,q),(7,u),(15,.int .i64 (p.length:Nat)),(16,.int .i64 (i:Nat))],[bK u 2 (s+p.length) (fun y=>zd (if y<s then 0 else if y<s+i then c*(vv p).getD (y - s) 0 else 0))],[(v,V p),(q,.ptr (J cj))])) (fun i=>i≤p.length) (fun i=>p.length - i) rfl ?_ ?_
 ·exact aU 0 (Nat.zero_le _) trivial qF (aC (Seals.own_cong (os:=[_]) 0 _ rfl rfl fun y _=>rai_0 s c (fun i=>(vv p).getD i 0) y) (aA qS))
 ·rintro i hi
  refine aE _ rfl (fun hlt=>?_) (fun hlt=>?_)
  ·have hin:i<p.length:=by omega
   have hpi:=hp.get i
   have hgi:=l9 p i qN
   refine a0 [0,1,2,3,4,5,6,7,8,9,10,11] [0,1,2,3,4,5,6,7,8,9,10,11] qK qK ?_
   refine ar rfl qI ?_
   refine aM (d:=J cj) qM (a8 _) fun y1=>?_
   refine aK qM i rfl hin fun b1=>?_
   refine aM (d:=J (p.getD i z0)) qM (a8 _) fun y2=>?_
   have hmul:=zMulJ y1 y2 cj (p.getD i z0) hcl qN hpi.1 qN
   rw [hcj,← hgi] at hmul
   refine cG hmul fun y3=>?_
   refine aI 0 rfl hu (s+i) qN qN ?_
   refine c9 (bP (d:=zd (c*(vv p).getD i 0)) 0 rfl (s+i) qN rfl qK (aB qM) ⟨_,_,Seals.own_cong (os:=[_]) 0 (fun y=>zd (if y<s then 0 else if y<s+(i+1) then c*(vv p).getD (y - s) 0 else 0)) rfl rfl (fun y _=>rai_s s i c (fun i=>(vv p).getD i 0) y),?_⟩)
   refine ar rfl qI ?_
   exact aU (i+1) qN (by simp only; omega) qF (aA qS)
  ·have hip:i=p.length:=by omega
   subst hip
   have hn:=pNormOT u (lst (s+p.length) fun y=>if y<s then 0 else c*(vv p).getD (y - s) 0) (hszL.mono hk) (by rw [dF]; omega)
   rw [← hfin] at hn
   refine c8 hn (Seals.told (g:=fun y=>if y<s then 0 else c*(vv p).getD (y - s) 0) hu fun y hy=>rai_n s _ c (fun i=>(vv p).getD i 0) y hy) qS ?_
   rintro r _ _ ⟨hr,rfl,rfl⟩
   exact fin ⟨hr,rfl,rfl⟩ (aL _ _)
theorem pRaisedJ (v w:Value) (p:Row) (cj:Bool×List Nat) (s:Nat) (k a:Nat) (hp:Fit k p) (hcl:Lim cj.2) (hca:cj.2.length≤a) (hk:k+a≤137438953472) (lp:p.length≤1073741824) (ls:s≤1073741824) :
  Meets Tryz.prog 120 [v,w,.int .i64 (s:Nat)] [(v,V p),(w,J cj)] (fun r os fs=>os=[]∧fs=[(r,vd (prai (jv cj) s (vv p)))]) :=
 (wJ v w p cj s k a hp hcl hca hk lp ls).closed fun r os fs ⟨h1,h2,h3⟩=>⟨_,_,⟨rfl,rfl⟩,by subst h2 h3; exact dC h1⟩
theorem rH (v w:Value) (p:Row) (c:Int) (s:Nat) (k a:Nat) (hp:Fit k p) (hc:sz c a) (hk:k+a≤137438953472) (lp:p.length≤1073741824) (ls:s≤1073741824) :
  Meets Tryz.prog 120 [v,w,.int .i64 (s:Nat)] [(v,V p),(w,zd c)] (fun r os fs=>os=[]∧fs=[(r,vd (prai c s (vv p)))]):=by
 have h:=pRaisedJ v w p (cn c) s k a hp (aY _) hc.len hk lp ls
 rw [eG] at h
 exact h
theorem m8 (v w:Value) (l:List Int) (c:Int) (s:Nat) (k a:Nat) (hp:szR k l) (hc:sz c a) (hk:k+a≤137438953472) (lp:l.length≤1073741824) (ls:s≤1073741824) :
  Meets Tryz.prog 120 [v,w,.int .i64 (s:Nat)] [(v,vd l),(w,zd c)] (fun r os fs=>os=[]∧fs=[(r,vd (prai c s l))]):=by
 have h:=rH v w (l.map cn) c s k a hp.fit hc hk (by rw [List.length_map]; exact lp) ls
 rw [fH] at h
 exact h
theorem bL {P:Program} {t:TypeId} {v:Value} {size n:Nat} {e:Nat→Dat} {os:List Own} {fs:List bI} {K:cC} (pos:Nat) (h:bD os pos=some (bK v size n e)) (j:Nat)
  (hj:j<n) {d:Dat} (hd:e j=d) (ht:jW P t d) (k':∀ u,K u os ((u,d)::fs)):kZ P t (mF v (j*size)) os fs K:=by
 subst hd
 exact load_elem pos h j hj ht k'
theorem zAddJ (v w:Value) (x y:Bool×List Nat) (hx:Lim x.2) (lx:x.2.length≤137438953472) (hy:Lim y.2) (ly:y.2.length≤137438953472) :
  Meets Tryz.prog 97 [v,w] [(v,J x),(w,J y)] (fun r os fs=>os=[]∧fs=[(r,zd (jv x+jv y))]):=sN v w x.1 y.1 x.2 y.2 hx hy lx ly
def mH (ps:List Row) (i y:Nat):Int:=cN (fun t=>(vv (ps.getD t [])).getD y 0) i
theorem sumco_sz {ps:List Row} {k i:Nat} (h:Fits k ps) (hi:i<18446744073709551616) (y:Nat):sz (mH ps i y) (k+1):=wT (fun t _=>(h.get t).szR.get y) hi
def mxl (ps:List Row):Nat→Nat
 | 0=>0
 | i+1=>max (mxl ps i) (ps.getD i []).length
theorem mxl_le {ps:List Row} {n m:Nat} (h:∀ i,(ps.getD i []).length≤m):mxl ps n≤m:=by
 induction n with
 | zero=>exact Nat.zero_le _
 | succ n ih=>exact Nat.max_le.2 ⟨ih,h n⟩
theorem le_mxl {ps:List Row} {n i:Nat} (h:i<n):(ps.getD i []).length≤mxl ps n:=by
 induction n with
 | zero=>omega
 | succ n ih =>
  by_cases e:i=n
  ·subst e; exact Nat.le_max_right _ _
  ·exact Nat.le_trans (ih qN) (Nat.le_max_left _ _)
theorem sum_s (a b:Nat→Int) (j y:Nat):upd (fun y=>zd (a y+if y<j then b y else 0)) j (zd (a j+b j)) y=zd (a y+if y<j+1 then b y else 0) :=
 upd_zd (G:=fun y=>a y+if y<j then b y else 0) (H:=fun y=>a y+if y<j+1 then b y else 0) (by
  rw [if_pos qN]) (fun y hy=>by
  by_cases h2:y<j
  ·rw [if_pos h2,if_pos qN]
  ·rw [if_neg h2,if_neg qN]) y
theorem pSumO_meets (v:Value) (ps:List Row) (k:Nat) (hf:Fits k ps) (hk:k+1≤137438953472) (lp:ps.length≤1048576) (ln:∀ i,(ps.getD i []).length≤4294967296) :
  Meets Tryz.prog 119 [v] [(v,W ps)] (fun r os fs=>isSl r∧os=[i8 2 J z0 r ((nrm (lst (mxl ps ps.length) (mH ps ps.length))).map cn)]∧fs=[]):=by
 have hM:mxl ps ps.length≤4294967296:=mxl_le ln
 have hss:∀ i y,i≤ps.length→sz (mH ps i y) (k+1):=fun i y hi=>sumco_sz hf qN y
 have hle:∀ i,i<ps.length→(ps.getD i []).length≤mxl ps ps.length:=fun i hi=>le_mxl hi
 generalize hMe:mxl ps ps.length=M at *
 refine mV Tryz.func119 ?_
 refine aO qM fun _=>?_
 refine aT (X:=Nat) (fun i=>([(0,v),(3,.int .i64 (mxl ps i:Nat)),(11,v),(12,.int .i64 (ps.length:Nat)),(13,.int .i64 (i:Nat))],[],[(v,W ps)])) (fun i=>i≤ps.length) (fun i=>ps.length - i) rfl ?_ ?_
 ·exact aU 0 (Nat.zero_le _) trivial qF (aA qS)
 ·rintro i hi
  refine aE _ rfl (fun hlt=>?_) (fun hlt=>?_)
  ·have hin:i<ps.length:=by omega
   refine aK qM i rfl hin fun a1=>?_
   refine aM (d:=V (ps.getD i [])) qM (jL _) fun x1=>?_
   refine aO qM fun _=>?_
   refine gS ?_
   refine ar rfl qI ?_
   have hmx:mxl ps (i+1)=max (mxl ps i) (ps.getD i []).length:=rfl
   exact aU (i+1) qN (by simp only; omega) qF (aA qS)
  ·have hip:i=ps.length:=by omega
   subst hip
   rw [hMe]
   refine fB (t:=23) (d:=I false []) M rfl rfl qN qN fun u hu=>?_
   refine aO qM fun _=>?_
   refine aT (X:=Nat) (fun i=>([(6,u),(24,v),(25,.int .i64 (ps.length:Nat)),(26,.int .i64 (i:Nat))],[bK u 2 M (fun y=>zd (mH ps i y))],[(v,W ps)])) (fun i=>i≤ps.length) (fun i=>ps.length - i) rfl ?_ ?_
   ·exact aU 0 (Nat.zero_le _) trivial qF (aC (Seals.own_cong (os:=[_]) 0 (fun y=>zd (mH ps 0 y)) rfl rfl fun y _=>vF) (aA qS))
   ·rintro i hi
    refine aE _ rfl (fun hlt=>?_) (fun hlt=>?_)
    ·have hin:i<ps.length:=by omega
     have hli:=hle i hin
     have hfi:=hf.get i
     refine aK qM i rfl hin fun a1=>?_
     refine aM (d:=V (ps.getD i [])) qM (jL _) fun x1=>?_
     refine aO qM fun _=>?_
     have hnext:∀ y,mH ps (i+1) y=mH ps i y+(vv (ps.getD i [])).getD y 0:=fun y=>rfl
     generalize hp:ps.getD i []=p at *
     refine aT (X:=Nat) (fun j=>([(6,u),(24,v),(25,.int .i64 (ps.length:Nat)),(26,.int .i64 (i:Nat)),(30,x1),(31,.int .i64 (p.length:Nat)),(32,.int .i64 (j:Nat))],
      [bK u 2 M (fun y=>zd (mH ps i y+if y<j then (vv p).getD y 0 else 0))],[(v,W ps),(x1,V p)])) (fun j=>j≤p.length) (fun j=>p.length - j) rfl ?_ ?_
     ·exact aU 0 (Nat.zero_le _) trivial qF (aC (Seals.own_cong (os:=[_]) 0 (fun y=>zd (mH ps i y+if y<0 then (vv p).getD y 0 else 0)) rfl rfl fun y _=>by rw [if_neg (Nat.not_lt_zero _),Int.add_zero]) (aA qS))
     ·rintro j hj
      refine aE _ rfl (fun hlj=>?_) (fun hlj=>?_)
      ·have hjn:j<p.length:=by omega
       have hpj:=hfi.get j
       have hgj:=l9 p j hjn
       have hsj:=hss i j hi
       refine aK qM j rfl hjn fun b1=>?_
       refine aM (d:=J (p.getD j z0)) qM (a8 _) fun y1=>?_
       refine aH (d:=I false []) fun q hq=>?_
       refine aF (d:=J (p.getD j z0)) 0 rfl hq rfl qK ?_ ?_; exact aB qM
       refine a0 [0,1,2,3,4,5,6,7,8,9] [0,1,2,3,4,5,6,7,8,9] qK qK ?_
       refine aI 1 rfl hu j rfl qN ?_
       refine bL (d:=zd (mH ps i j)) 1 rfl j qN qP (aN _ _) fun y2=>?_
       refine aD (d:=J (p.getD j z0)) 0 rfl hq rfl (a8 _) fun y3=>?_
       have hadd:=zAddJ y2 y3 (cn (mH ps i j)) (p.getD j z0) (aY _) (Nat.le_trans hsj.len qN) hpj.1 qN
       rw [eG,← hgj] at hadd
       refine cG hadd fun y4=>?_
       refine aI 1 rfl hu j rfl qN ?_
       refine c9 (bP (d:=zd (mH ps i j+(vv p).getD j 0)) 1 rfl j qN rfl qK (aB qM) ⟨_,_,Seals.own_cong (os:=[_,_]) 1 (fun y=>zd (mH ps i y+if y<j+1 then (vv p).getD y 0 else 0)) rfl rfl (fun y _=>sum_s (mH ps i) (fun y=>(vv p).getD y 0) j y),?_⟩)
       refine ar rfl qI ?_
       exact aU (j+1) qN (by simp only; omega) qF (dS (aA qS))
      ·have hend:∀ y,zd (mH ps i y+if y<j then (vv p).getD y 0 else 0)=zd (mH ps (i+1) y):=fun y=>by
        rw [hnext]
        by_cases h2:y<j
        ·rw [if_pos h2]
        ·rw [if_neg h2,fM (by rw [cP]; omega)]
       refine ar rfl qI ?_
       refine aU (i+1) qN (by simp only; omega) qF (aC (Seals.own_cong (os:=[_]) 0 (fun y=>zd (mH ps (i+1) y)) rfl rfl fun y _=>hend y) (aA qS))
    ·have hip:i=ps.length:=by omega
     subst hip
     refine c8 (pNormOT u (lst M (mH ps ps.length)) (szR.lst fun y _=>(hss _ y (Nat.le_refl _)).mono hk) (by rw [dF]; omega)) (Seals.told (g:=mH ps ps.length) hu fun y hy=>rfl) qS ?_
     rintro r _ _ ⟨hr,rfl,rfl⟩
     exact fin ⟨hr,rfl,rfl⟩ (aL _ _)
theorem padd_eq (p q:Row):nrm (lst (mxl [p,q] 2) (mH [p,q] 2))=padd (vv p) (vv q):=by
 unfold padd
 have h1:mxl [p,q] 2=max (vv p).length (vv q).length:=by
  rw [cP,cP]
  show max (max 0 p.length) q.length=_
  omega
 rw [h1]
 congr 1
 refine oM fun i _=>?_
 show 0+(vv p).getD i 0+(vv q).getD i 0=_
 omega
theorem tY (v:Value) (p q:Row) (k:Nat) (hp:Fit k p) (hq:Fit k q) (hk:k+1≤137438953472) (lp:p.length≤4294967296) (lq:q.length≤4294967296) :
  Meets Tryz.prog 119 [v] [(v,W [p,q])] (fun r os fs=>isSl r∧os=[i8 2 J z0 r ((padd (vv p) (vv q)).map cn)]∧fs=[]):=by
 have h:=pSumO_meets v [p,q] k (fun r hr=>by
  rcases List.mem_cons.1 hr with rfl | hr
  ·exact hp
  ·rcases List.mem_cons.1 hr with rfl | hr
   ·exact hq
   ·simp at hr) hk (by show 2≤1048576; omega) (fun i=>by
  match i with
  | 0=>exact lp
  | 1=>exact lq
  | i+2=>show 0≤_; omega)
 have e:nrm (lst (mxl [p,q] [p,q].length) (mH [p,q] [p,q].length))=padd (vv p) (vv q):=padd_eq p q
 rw [e] at h
 exact h
theorem pSum2_meets (v:Value) (p q:Row) (k:Nat) (hp:Fit k p) (hq:Fit k q) (hk:k+1≤137438953472) (lp:p.length≤4294967296) (lq:q.length≤4294967296) :
  Meets Tryz.prog 119 [v] [(v,W [p,q])] (fun r os fs=>os=[]∧fs=[(r,vd (padd (vv p) (vv q)))]) :=
 (tY v p q k hp hq hk lp lq).closed fun r os fs ⟨h1,h2,h3⟩=>⟨_,_,⟨rfl,rfl⟩,by subst h2 h3; exact dC h1⟩
theorem rD (c:Int) (l:List Int):prai c 0 l=ptim c l:=rfl
theorem szR.map {k a:Nat} {c:Int} {l:List Int} (h:szR k l) (hc:sz c a):szR (k+a) (l.map fun y=>c*y):=fun x hx=>by
 obtain ⟨y,hy,rfl⟩:=List.mem_map.1 hx
 rw [Nat.add_comm]; exact hc.mul (h y hy)
theorem szR.prai {k a:Nat} {c:Int} {l:List Int} (h:szR k l) (hc:sz c a) (s:Nat):szR (k+a) (prai c s l):=szR.nrm fun x hx=>by
 rcases List.mem_append.1 hx with h1 | h1
 ·rw [(List.mem_replicate.1 h1).2]; exact lH _
 ·exact h.map hc x h1
theorem jF (c:Int) (s:Nat) (l:List Int):(prai c s l).length≤s+l.length:=Nat.le_trans (bX _) (by rw [up_len,List.length_map]; exact Nat.le_refl _)
theorem szR.padd {k:Nat} {l m:List Int} (h:szR k l) (h':szR k m):szR (k+1) (padd l m):=szR.nrm (szR.lst fun i _=>by
 have:=kT (h.get i) ((h'.get i).neg)
 rwa [Int.sub_neg] at this)
theorem padd_len (l m:List Int):(padd l m).length≤max l.length m.length:=Nat.le_trans (bX _) (by rw [dF]; exact Nat.le_refl _)
theorem szR.psub {k:Nat} {l m:List Int} (h:szR k l) (h':szR k m):szR (k+1) (psub l m):=szR.nrm (szR.lst fun i _=>kT (h.get i) (h'.get i))
theorem psub_len (l m:List Int):(psub l m).length≤max l.length m.length:=Nat.le_trans (bX _) (by rw [dF]; exact Nat.le_refl _)
theorem szR.neg {k:Nat} {l:List Int} (h:szR k l):szR k (Go.Proofs.YtjebljkoiaojaaaGreat.prai (-1) 0 l):=szR.nrm fun x hx=>by
 rcases List.mem_append.1 hx with h1 | h1
 ·rw [(List.mem_replicate.1 h1).2]; exact lH _
 ·obtain ⟨y,hy,rfl⟩:=List.mem_map.1 h1
  have:=(h y hy).neg
  rwa [← Int.neg_one_mul] at this
theorem padd_neg (l m:List Int):padd l (prai (-1) 0 m)=psub l m:=(wH _ _).ext (vY _ _) fun x=>by
 rw [fV,jQ,iF,Int.pow_zero]; omega
theorem kH (x:Int) (h:x.natAbs≤1):sz x 1:=by
 unfold sz; omega
theorem pTimesJO (v w:Value) (p:Row) (cj:Bool×List Nat) (k a:Nat) (hp:Fit k p) (hcl:Lim cj.2) (hca:cj.2.length≤a) (hk:k+a≤137438953472) (lp:p.length≤1073741824) :
  Meets Tryz.prog 81 [v,w] [(v,V p),(w,J cj)] (fun r os fs=>isSl r∧os=[i8 2 J z0 r ((ptim (jv cj) (vv p)).map cn)]∧fs=[]):=by
 have hr:=fun u=>wJ v u p cj 0 k a hp hcl hca hk lp qN
 simp only [rD] at hr
 refine mV Tryz.func81 ?_
 refine iO (aB (d:=J cj) qM) fun q=>?_
 refine aM (d:=J cj) qM (a8 _) fun y1=>?_
 refine cF (hr y1) ?_
 rintro r _ _ ⟨hr,rfl,rfl⟩
 exact fin ⟨hr,rfl,rfl⟩ (aL _ _)
theorem pTimesJ (v w:Value) (p:Row) (cj:Bool×List Nat) (k a:Nat) (hp:Fit k p) (hcl:Lim cj.2) (hca:cj.2.length≤a) (hk:k+a≤137438953472) (lp:p.length≤1073741824) :
  Meets Tryz.prog 81 [v,w] [(v,V p),(w,J cj)] (fun r os fs=>os=[]∧fs=[(r,vd (ptim (jv cj) (vv p)))]) :=
 (pTimesJO v w p cj k a hp hcl hca hk lp).closed fun r os fs ⟨h1,h2,h3⟩=>⟨_,_,⟨rfl,rfl⟩,by subst h2 h3; exact dC h1⟩
theorem pTimes_meets (v w:Value) (p:Row) (c:Int) (k a:Nat) (hp:Fit k p) (hc:sz c a) (hk:k+a≤137438953472) (lp:p.length≤1073741824) :
  Meets Tryz.prog 81 [v,w] [(v,V p),(w,zd c)] (fun r os fs=>os=[]∧fs=[(r,vd (ptim c (vv p)))]):=by
 have h:=pTimesJ v w p (cn c) k a hp (aY _) hc.len hk lp
 rw [eG] at h
 exact h
theorem pTimesT (v w:Value) (l:List Int) (c:Int) (k a:Nat) (hp:szR k l) (hc:sz c a) (hk:k+a≤137438953472) (lp:l.length≤1073741824) :
  Meets Tryz.prog 81 [v,w] [(v,vd l),(w,zd c)] (fun r os fs=>os=[]∧fs=[(r,vd (ptim c l))]):=by
 have h:=pTimes_meets v w (l.map cn) c k a hp.fit hc hk (by rw [List.length_map]; exact lp)
 rw [fH] at h
 exact h
theorem wI (v w:Value) (p q:Row) (k:Nat) (hp:Fit k p) (hq:Fit k q) (hk:k+1≤137438953472) (lp:p.length≤1073741824) (lq:q.length≤1073741824) :
  Meets Tryz.prog 78 [v,w] [(v,V p),(w,V q)] (fun r os fs=>isSl r∧os=[i8 2 J z0 r ((psub (vv p) (vv q)).map cn)]∧fs=[]):=by
 have hr:=fun u=>rH w u q (-1) 0 k 1 hq (kH _ qE) hk lq qN
 have hs:=fun u=>tY u p ((prai (-1) 0 (vv q)).map cn) k hp hq.szR.neg.fit hk qN (by
  have:=jF (-1) 0 (vv q)
  rw [cP] at this
  rw [List.length_map]; omega)
 simp only [fH,padd_neg] at hs
 refine mV Tryz.func78 ?_
 refine cG (dW (-1) qE qE) fun x1=>?_
 refine cG (hr x1) fun x2=>?_
 refine lit2_L (size:=1) (f:=V) (z:=[]) (e:=23) p ((prai (-1) 0 (vv q)).map cn) qE (aB qM) (aB qM) rfl rfl fun x3=>?_
 refine cF (hs x3) ?_
 rintro r _ _ ⟨hr,rfl,rfl⟩
 exact fin ⟨hr,rfl,rfl⟩ (aL _ _)
theorem pSub_meets (v w:Value) (p q:Row) (k:Nat) (hp:Fit k p) (hq:Fit k q) (hk:k+1≤137438953472) (lp:p.length≤1073741824) (lq:q.length≤1073741824) :
  Meets Tryz.prog 78 [v,w] [(v,V p),(w,V q)] (fun r os fs=>os=[]∧fs=[(r,vd (psub (vv p) (vv q)))]) :=
 (wI v w p q k hp hq hk lp lq).closed fun r os fs ⟨h1,h2,h3⟩=>⟨_,_,⟨rfl,rfl⟩,by subst h2 h3; exact dC h1⟩
theorem pSubT (v w:Value) (l m:List Int) (k:Nat) (hl:szR k l) (hm:szR k m) (hk:k+1≤137438953472) (ll:l.length≤1073741824) (lm:m.length≤1073741824) :
  Meets Tryz.prog 78 [v,w] [(v,vd l),(w,vd m)] (fun r os fs=>os=[]∧fs=[(r,vd (psub l m))]):=by
 have h:=pSub_meets v w (l.map cn) (m.map cn) k hl.fit hm.fit hk (by rw [List.length_map]; exact ll) (by rw [List.length_map]; exact lm)
 rw [fH,fH] at h
 exact h
theorem pSumT (v:Value) (l m:List Int) (k:Nat) (hl:szR k l) (hm:szR k m) (hk:k+1≤137438953472) (ll:l.length≤4294967296) (lm:m.length≤4294967296) :
  Meets Tryz.prog 119 [v] [(v,W [l.map cn,m.map cn])] (fun r os fs=>os=[]∧fs=[(r,vd (padd l m))]):=by
 have h:=pSum2_meets v (l.map cn) (m.map cn) k hl.fit hm.fit hk (by rw [List.length_map]; exact ll) (by rw [List.length_map]; exact lm)
 rw [fH,fH] at h
 exact h
theorem pSubOT (v w:Value) (l m:List Int) (k:Nat) (hl:szR k l) (hm:szR k m) (hk:k+1≤137438953472) (ll:l.length≤1073741824) (lm:m.length≤1073741824) :
  Meets Tryz.prog 78 [v,w] [(v,vd l),(w,vd m)] (fun r os fs=>isSl r∧os=[i8 2 J z0 r ((psub l m).map cn)]∧fs=[]):=by
 have h:=wI v w (l.map cn) (m.map cn) k hl.fit hm.fit hk (by rw [List.length_map]; exact ll) (by rw [List.length_map]; exact lm)
 rw [fH,fH] at h
 exact h
theorem pRaisedOT (v w:Value) (l:List Int) (c:Int) (s:Nat) (k a:Nat) (hp:szR k l) (hc:sz c a) (hk:k+a≤137438953472) (lp:l.length≤1073741824) (ls:s≤1073741824) :
  Meets Tryz.prog 120 [v,w,.int .i64 (s:Nat)] [(v,vd l),(w,zd c)] (fun r os fs=>isSl r∧os=[i8 2 J z0 r ((prai c s l).map cn)]∧fs=[]):=by
 have h:=wJ v w (l.map cn) (cn c) s k a hp.fit (aY _) hc.len hk (by rw [List.length_map]; exact lp) ls
 rw [fH,eG] at h
 exact h
theorem pTimesOT (v w:Value) (l:List Int) (c:Int) (k a:Nat) (hp:szR k l) (hc:sz c a) (hk:k+a≤137438953472) (lp:l.length≤1073741824) :
  Meets Tryz.prog 81 [v,w] [(v,vd l),(w,zd c)] (fun r os fs=>isSl r∧os=[i8 2 J z0 r ((ptim c l).map cn)]∧fs=[]):=by
 have h:=pTimesJO v w (l.map cn) (cn c) k a hp.fit (aY _) hc.len hk (by rw [List.length_map]; exact lp)
 rw [fH,eG] at h
 exact h
theorem conv_succ (a b:List Int) (i y:Nat):conv a b (i+1) y=conv a b i y+if i≤y then a.getD i 0*b.getD (y - i) 0 else 0:=rfl
theorem conv_sz {a b:List Int} {k l m:Nat} (ha:szR k a) (hb:szR l b) (hm:m<18446744073709551616) (y:Nat):sz (conv a b m y) (k+l+1):=wT (fun t _=>by
 split
 ·exact (ha.get t).mul (hb.get _)
 ·exact lH _) hm
def mst (a b:List Int) (i k y:Nat):Int:=conv a b i y+if i≤y∧y<i+k then a.getD i 0*b.getD (y - i) 0 else 0
theorem mst_0 (a b:List Int) (i y:Nat):mst a b i 0 y=conv a b i y:=by unfold mst; rw [if_neg qN]; omega
theorem mst_at (a b:List Int) (i k:Nat):mst a b i k (i+k)=conv a b i (i+k):=by unfold mst; rw [if_neg qN]; omega
theorem mst_n (a b:List Int) (i y:Nat):mst a b i b.length y=conv a b (i+1) y:=by
 unfold mst
 rw [conv_succ]
 by_cases h:i≤y
 ·by_cases h2:y<i+b.length
  ·rw [if_pos ⟨h,h2⟩,if_pos h]
  ·rw [if_neg qN,if_pos h,fM (l:=b) qN]; simp
 ·rw [if_neg qN,if_neg h]
theorem mst_s (a b:List Int) (i k y:Nat):upd (fun y=>zd (mst a b i k y)) (i+k) (zd (conv a b i (i+k)+a.getD i 0*b.getD k 0)) y=zd (mst a b i (k+1) y) :=
 upd_zd (G:=fun y=>mst a b i k y) (H:=fun y=>mst a b i (k+1) y) (by
  unfold mst
  rw [if_pos qN,Nat.add_sub_cancel_left]) (fun y hy=>by
  unfold mst
  congr 1
  by_cases h:i≤y∧y<i+k
  ·rw [if_pos h,if_pos qN]
  ·rw [if_neg h,if_neg qN]) y
theorem pMul_meets (v w:Value) (p q:Row) (k l:Nat) (hp:Fit k p) (hq:Fit l q) (hk:k+l+1≤137438953472) (lp:p.length≤1073741824) (lq:q.length≤1073741824) :
  Meets Tryz.prog 79 [v,w] [(v,V p),(w,V q)] (fun r os fs=>os=[]∧fs=[(r,vd (pmul (vv p) (vv q)))]):=by
 have h1:=fR v p (hp.mono qN) qN
 have h2:=fR w q (hq.mono qN) qN
 have sa:=hp.szR.nrm
 have sb:=hq.szR.nrm
 have la:(nrm (vv p)).length≤1073741824:=Nat.le_trans (bX _) (by rw [cP]; exact lp)
 have lb:(nrm (vv q)).length≤1073741824:=Nat.le_trans (bX _) (by rw [cP]; exact lq)
 have hdef:pmul (vv p) (vv q)=if nrm (vv p)=[]∨nrm (vv q)=[] then [] else nrm (lst ((nrm (vv p)).length+(nrm (vv q)).length - 1) fun y=>conv (nrm (vv p)) (nrm (vv q)) (nrm (vv p)).length y):=rfl
 generalize hPM:pmul (vv p) (vv q)=PM at *
 generalize hA:nrm (vv p)=A at *
 generalize hB:nrm (vv q)=B at *
 have hcs:∀ i y,i≤A.length→sz (conv A B i y) (k+l+1):=fun i y hi=>conv_sz sa sb qN y
 have h3:=fun u (hne:PM=nrm (lst (A.length+B.length - 1) fun y=>conv A B A.length y))=>pNormT u (lst (A.length+B.length - 1) fun y=>conv A B A.length y) ((szR.lst fun y _=>hcs _ y (Nat.le_refl _)).mono hk) (by rw [dF]; omega)
 refine mV Tryz.func79 ?_
 refine cG h1 fun x1=>?_
 refine cG h2 fun x2=>?_
 refine gH qM ?_
 refine aE _ rfl (fun hz=>?_) (fun hz=>?_)
 ·have:A=[]:=List.length_eq_zero_iff.1 qN
  rw [if_pos (.inl this)] at hdef
  exact fin ⟨rfl,rfl⟩ (by rw [hdef]; exact bA (dN 2 _) (aL _ _))
 refine gH qM ?_
 refine aE _ rfl (fun hy=>?_) (fun hy=>?_)
 ·have:B=[]:=List.length_eq_zero_iff.1 qN
  rw [if_pos (.inr this)] at hdef
  exact fin ⟨rfl,rfl⟩ (by rw [hdef]; exact bA (dN 2 _) (aL _ _))
 have hne:¬ (A=[]∨B=[]):=by
  rintro (h | h)
  ·rw [h] at hz; simp at hz
  ·rw [h] at hy; simp at hy
 rw [if_neg hne] at hdef
 refine gH qM ?_
 refine gH qM ?_
 refine ar rfl qI ?_
 refine ar rfl qI ?_
 refine fB (t:=23) (d:=I false []) (A.length+B.length - 1) qN qN qN qN fun u hu=>?_
 refine gH qM ?_
 refine aT (X:=Nat) (fun i=>([(5,x1),(6,x2),(7,u),(31,x1),(32,.int .i64 (A.length:Nat)),(33,.int .i64 (i:Nat))],[bK u 2 (A.length+B.length - 1) (fun y=>zd (conv A B i y))],[(x1,vd A),(x2,vd B)])) (fun i=>i≤A.length) (fun i=>A.length - i) rfl ?_ ?_
 ·exact aU 0 (Nat.zero_le _) trivial qF (aC (Seals.own_cong (os:=[_]) 0 (fun y=>zd (conv A B 0 y)) rfl rfl fun y _=>vF) (aA qS))
 ·rintro i hi
  refine aE _ rfl (fun hlt=>?_) (fun hlt=>?_)
  ·have hin:i<A.length:=by omega
   have hai:=sa.get i
   refine vB qM i rfl hin fun b1=>?_
   refine aM (d:=zd (A.getD i 0)) qM (aN _ _) fun y1=>?_
   refine aH (d:=I false []) fun q1 hq1=>?_
   refine aF (d:=zd (A.getD i 0)) 0 rfl hq1 rfl qK ?_ ?_; exact aB qM
   refine gH qM ?_
   refine aT (X:=Nat) (fun j=>([(5,x1),(6,x2),(7,u),(31,x1),(32,.int .i64 (A.length:Nat)),(33,.int .i64 (i:Nat)),(8,.int .i64 (i:Nat)),(9,q1),(38,x2),(39,.int .i64 (B.length:Nat)),(40,.int .i64 (j:Nat))],
    [bK q1 2 1 (fun _=>zd (A.getD i 0)),bK u 2 (A.length+B.length - 1) (fun y=>zd (mst A B i j y))],[(x1,vd A),(x2,vd B)])) (fun j=>j≤B.length) (fun j=>B.length - j) rfl ?_ ?_
   ·exact aU 0 (Nat.zero_le _) trivial qF (aC (bB rfl) (aC (Seals.own_cong (os:=[_,_]) 1 (fun y=>zd (mst A B i 0 y)) rfl rfl fun y _=>by rw [mst_0]) (aA qS)))
   ·rintro j hj
    refine aE _ rfl (fun hlj=>?_) (fun hlj=>?_)
    ·have hjn:j<B.length:=by omega
     have hbj:=sb.get j
     have hcj:=hcs i (i+j) hi
     refine vB qM j rfl hjn fun b2=>?_
     refine aM (d:=zd (B.getD j 0)) qM (aN _ _) fun y2=>?_
     refine aH (d:=I false []) fun q2 hq2=>?_
     refine aF (d:=zd (B.getD j 0)) 0 rfl hq2 rfl qK ?_ ?_; exact aB qM
     refine a0 [0,1,2,3,4,5,6,7,8,9,10,11,12,13,14,15] [0,1,2,3,4,5,6,7,8,9,10,11,12,13,14,15] qK qK ?_
     refine ar rfl qI ?_
     refine ar rfl qI ?_
     refine aI 2 rfl hu (i+j) qN qN ?_
     refine bL (d:=zd (conv A B i (i+j))) 2 rfl (i+j) qN (by rw [mst_at]) (aN _ _) fun y3=>?_
     refine aD (d:=zd (A.getD i 0)) 1 rfl hq1 rfl (aN _ _) fun y4=>?_
     refine aD (d:=zd (B.getD j 0)) 0 rfl hq2 rfl (aN _ _) fun y5=>?_
     refine cG (iP y4 y5 _ _ _ _ hai hbj qN qN) fun y6=>?_
     refine cG (nX y3 y6 _ _ _ _ hcj (hai.mul hbj) qN qN) fun y7=>?_
     refine aI 2 rfl hu (i+j) qN qN ?_
     refine c9 (bP (d:=zd (conv A B i (i+j)+A.getD i 0*B.getD j 0)) 2 rfl (i+j) qN rfl qK (aB qM) ⟨_,_,Seals.own_cong (os:=[_,_,_]) 2 (fun y=>zd (mst A B i (j+1) y)) rfl rfl (fun y _=>mst_s A B i j y),?_⟩)
     refine ar rfl qI ?_
     exact aU (j+1) qN (by simp only; omega) qF (dS (aA qS))
    ·have hjB:j=B.length:=by omega
     subst hjB
     refine ar rfl qI ?_
     exact aU (i+1) qN (by simp only; omega) qF (dS (aC (Seals.own_cong (os:=[_]) 0 (fun y=>zd (conv A B (i+1) y)) rfl rfl fun y _=>by rw [mst_n]) (aA qS)))
  ·have hip:i=A.length:=by omega
   subst hip
   have h3':=h3 u hdef
   rw [← hdef] at h3'
   refine c8 h3' (Seals.told (g:=fun y=>conv A B A.length y) hu fun y hy=>rfl) qS ?_
   rintro r _ _ ⟨rfl,rfl⟩
   exact fin ⟨rfl,rfl⟩ (aA qS)
theorem pMulT (v w:Value) (p q:List Int) (k l:Nat) (hp:szR k p) (hq:szR l q) (hk:k+l+1≤137438953472) (lp:p.length≤1073741824) (lq:q.length≤1073741824) :
  Meets Tryz.prog 79 [v,w] [(v,vd p),(w,vd q)] (fun r os fs=>os=[]∧fs=[(r,vd (pmul p q))]):=by
 have h:=pMul_meets v w (p.map cn) (q.map cn) k l hp.fit hq.fit hk (by rw [List.length_map]; exact lp) (by rw [List.length_map]; exact lq)
 rw [fH,fH] at h
 exact h
theorem xI {l:List Int} {x:Int} {k a:Nat} (h:szR k l) (hx:sz x a):sz (pev l x) (k+l.length*(a+1)):=by
 induction l with
 | nil=>exact lH _
 | cons c l ih =>
  have h1:=ih fun y hy=>h y (.tail _ hy)
  have h2:=hx.mul h1
  have h3:sz c (a+(k+l.length*(a+1))):=(h c (.head _)).mono qN
  have h4:=kT h3 h2.neg
  rw [Int.sub_neg] at h4
  refine h4.mono ?_
  rw [List.length_cons,Nat.succ_mul]; omega
theorem ev_drop {l:List Int} {i:Nat} (h:i<l.length) (x:Int):pev (l.drop i) x=l.getD i 0+x*pev (l.drop (i+1)) x:=by
 rw [List.drop_eq_getElem_cons h]
 simp [pev,gE,h]
theorem szR.drop {k:Nat} {l:List Int} (h:szR k l) (i:Nat):szR k (l.drop i):=fun x hx=>h x (List.mem_of_mem_drop hx)
theorem zMulZJ (v w:Value) (x:Int) (y:Bool×List Nat) (a:Nat) (hx:sz x a) (ha:a≤137438953472) (hy:Lim y.2) (ly:y.2.length≤137438953472) :
  Meets Tryz.prog 98 [v,w] [(v,zd x),(w,J y)] (fun r os fs=>os=[]∧fs=[(r,zd (x*jv y))]):=by
 have h:=zMulJ v w (cn x) y (aY _) (Nat.le_trans hx.len ha) hy ly
 rw [eG] at h
 exact h
theorem zMulJZ (v w:Value) (x:Bool×List Nat) (y:Int) (a:Nat) (hx:Lim x.2) (lx:x.2.length≤137438953472) (hy:sz y a) (ha:a≤137438953472) :
  Meets Tryz.prog 98 [v,w] [(v,J x),(w,zd y)] (fun r os fs=>os=[]∧fs=[(r,zd (jv x*y))]):=by
 have h:=zMulJ v w x (cn y) hx lx (aY _) (Nat.le_trans hy.len ha)
 rw [eG] at h
 exact h
theorem pValueJ (v w:Value) (p:Row) (xj:Bool×List Nat) (k a:Nat) (hp:Fit k p) (hxl:Lim xj.2) (hxa:xj.2.length≤a) (hk:k+(p.length+1)*(a+1)≤137438953472) (lp:p.length≤1073741824) :
  Meets Tryz.prog 53 [v,w] [(v,V p),(w,J xj)] (fun r os fs=>os=[]∧fs=[(r,zd (pev (vv p) (jv xj)))]):=by
 have hx:sz (jv xj) a:=fZ hxl hxa
 obtain ⟨x,hxj⟩:∃ x,jv xj=x:=⟨_,rfl⟩
 rw [hxj] at hx ⊢
 have hm1:(p.length+1)*(a+1)=p.length*(a+1)+(a+1):=Nat.succ_mul _ _
 have h1:=fR v p (hp.mono qN) qN
 have sa:=hp.szR.nrm
 have la:(nrm (vv p)).length≤p.length:=Nat.le_trans (bX _) (by rw [cP]; exact Nat.le_refl _)
 rw [← dL (vv p)]
 generalize hA:nrm (vv p)=A at *
 have hs:∀ i,sz (pev (A.drop i) x) (k+p.length*(a+1)):=fun i=>(xI (sa.drop i) hx).mono (by
  have:(A.drop i).length*(a+1)≤p.length*(a+1):=Nat.mul_le_mul_right _ (by rw [List.length_drop]; omega)
  omega)
 have hlast:pev (A.drop A.length) x=0:=by rw [List.drop_length]; rfl
 have hstep:∀ i,i<A.length→pev (A.drop (A.length - i)) x*x+A.getD (A.length - 1 - i) 0=pev (A.drop (A.length - (i+1))) x:=fun i hi=>by
  rw [ev_drop (i:=A.length - (i+1)) qN,show A.length - (i+1)+1=A.length - i by omega,show A.length - (i+1)=A.length - 1 - i by omega,Int.mul_comm]; omega
 have hfin:pev (A.drop (A.length - A.length)) x=pev A x:=by rw [Nat.sub_self,List.drop_zero]
 generalize hV:(fun i=>pev (A.drop (A.length - i)) x)=Vf
 have hs':∀ i,sz (Vf i) (k+p.length*(a+1)):=fun i=>by rw [← hV]; exact hs _
 have hstep':∀ i,i<A.length→Vf i*x+A.getD (A.length - 1 - i) 0=Vf (i+1):=fun i hi=>by rw [← hV]; exact hstep i hi
 have h0':Vf 0=0:=by rw [← hV]; exact hlast
 have hfin':Vf A.length=pev A x:=by rw [← hV]; exact hfin
 refine mV Tryz.func53 ?_
 refine iO (aB (d:=J xj) qM) fun px=>?_
 refine aH (d:=I false []) fun o ho=>?_
 refine nT (da:=.one (.bool false)) (db:=U (bQ 0)) (fun S w=>⟨[.bool false],[.slice none 0 0],rfl,fL S w,by rw [cD]; exact iH S w 1 _⟩) fun z=>?_
 refine aH (d:=I false []) fun s hs1=>?_
 refine aF (d:=zd 0) 0 rfl hs1 rfl qK ?_ ?_; exact aB qM
 refine cG h1 fun x1=>?_
 refine gH qM ?_
 refine aT (X:=Nat) (fun i=>([(3,px),(4,o),(5,s),(6,x1),(12,.int .i64 (A.length:Nat)),(13,.int .i64 (i:Nat))],[bK s 2 1 (fun _=>zd (Vf i)),bK o 2 1 (fun _=>I false [])],[(x1,vd A),(px,.ptr (J xj))])) (fun i=>i≤A.length) (fun i=>A.length - i) rfl ?_ ?_
 ·exact aU 0 (Nat.zero_le _) trivial qF (aC (bB (by rw [h0']; rfl)) (aA qS))
 ·rintro i hi
  refine aE _ rfl (fun hlt=>?_) (fun hlt=>?_)
  ·have hin:i<A.length:=by omega
   have hsi:=hs' i
   have hsi1:=hstep' i hin
   have hai:=sa.get (A.length - 1 - i)
   refine a0 [0,1,3,4,5,6,7,8,9,10,2,11,12] [0,1,2,3,4,5,6,7,8,9,10,11,12] qK qK ?_
   refine aD (d:=zd (Vf i)) 0 rfl hs1 rfl (aN _ _) fun y1=>?_
   refine aM (d:=J xj) qM (a8 _) fun y2=>?_
   refine gH qM ?_
   refine ar rfl qI ?_
   refine ar rfl qI ?_
   refine vB qM (A.length - 1 - i) qN qN fun b1=>?_
   refine aM (d:=zd (A.getD (A.length - 1 - i) 0)) qM (aN _ _) fun y4=>?_
   have hmul:=zMulZJ y1 y2 _ xj _ hsi qN hxl qN
   rw [hxj] at hmul
   refine cG hmul fun y3=>?_
   have hadd:=nX y3 y4 _ _ _ _ (hsi.mul hx) hai qN qN
   rw [hsi1] at hadd
   refine cG hadd fun y5=>?_
   refine aF (d:=zd (Vf (i+1))) 0 rfl hs1 rfl qK ?_ ?_; exact aB qM
   refine ar rfl qI ?_
   exact aU (i+1) qN (by simp only; omega) qF (aC (bB rfl) (aA qS))
  ·have hip:i=A.length:=by omega
   subst hip
   have hsn:=hs' A.length
   rw [hfin'] at hsn
   rw [hfin']
   refine aD (d:=zd (pev A x)) 0 rfl hs1 rfl (aN _ _) fun y1=>?_
   refine cG (zNormZ y1 _ _ hsn qN) fun y2=>?_
   refine aF (d:=zd (pev A x)) 1 rfl ho rfl qK ?_ ?_; exact aB qM
   refine aD (d:=zd (pev A x)) 1 rfl ho rfl (aN _ _) fun r=>?_
   exact fin ⟨rfl,rfl⟩ (dS (dS (aA qS)))
theorem cont_snoc (l:List Int) (c:Int):cO (l++[c])=Nat.gcd (cO l) c.natAbs:=by
 induction l with
 | nil=>show Nat.gcd c.natAbs 0=Nat.gcd 0 c.natAbs; simp
 | cons d l ih =>
  show Nat.gcd d.natAbs (cO (l++[c]))=Nat.gcd (Nat.gcd d.natAbs (cO l)) c.natAbs
  rw [ih,Nat.gcd_assoc]
theorem qH {l:List Int} {k:Nat} (h:szR k l):sz (cO l:Nat) k:=by
 unfold sz
 rw [Int.natAbs_natCast]
 induction l with
 | nil=>exact Nat.pow_pos qE
 | cons c l ih =>
  have h1:=ih fun y hy=>h y (.tail _ hy)
  have h2:=h c (.head _)
  show Nat.gcd c.natAbs (cO l)<_
  by_cases e:c.natAbs=0
  ·rw [e,Nat.gcd_zero_left]; exact h1
  ·exact Nat.lt_of_le_of_lt (Nat.gcd_le_left _ (Nat.pos_of_ne_zero e)) h2
theorem szR.take {k:Nat} {l:List Int} (h:szR k l) (i:Nat):szR k (l.take i):=fun x hx=>h x (List.mem_of_mem_take hx)
theorem cont_take {l:List Int} {i:Nat} (h:i<l.length):cO (l.take (i+1))=Nat.gcd (cO (l.take i)) (l.getD i 0).natAbs:=by
 rw [sW 0 h,cont_snoc]
theorem jv_abs (x:Bool×List Nat):(jv x).natAbs=nv x.2:=nS _ _
theorem zGcdJ (v w:Value) (x y:Bool×List Nat) (hx:Lim x.2) (lx:x.2.length≤137438953472) (hy:Lim y.2) (ly:y.2.length≤137438953472) :
  Meets Tryz.prog 198 [v,w] [(v,J x),(w,J y)] (fun r os fs=>os=[]∧fs=[(r,zd (Nat.gcd (jv x).natAbs (jv y).natAbs:Nat))]):=by
 rw [jv_abs,jv_abs]
 exact zgcd_meets v w x.1 y.1 x.2 y.2 hx hy lx ly
theorem zGcdZ (v w:Value) (x y:Int) (a b:Nat) (hx:sz x a) (hy:sz y b) (ha:a≤137438953472) (hb:b≤137438953472) :
  Meets Tryz.prog 198 [v,w] [(v,zd x),(w,zd y)] (fun r os fs=>os=[]∧fs=[(r,zd (Nat.gcd x.natAbs y.natAbs:Nat))]):=by
 have h:=zGcdJ v w (cn x) (cn y) (aY _) (Nat.le_trans hx.len ha) (aY _) (Nat.le_trans hy.len hb)
 rw [eG,eG] at h
 exact h
theorem zAbsZ (v:Value) (x:Int) (a:Nat) (hx:sz x a) (ha:a≤137438953472) :
  Meets Tryz.prog 144 [v] [(v,zd x)] (fun r os fs=>os=[]∧fs=[(r,zd (x.natAbs:Nat))]):=by
 have h:=zabs_meets v (decide (x<0)) (bQ x.natAbs) (aY _) (Nat.le_trans hx.len ha)
 rw [bY] at h
 exact h
theorem pP (v:Value) (p:Row) (k:Nat) (hp:Fit k p) (hk:k≤137438953472) :
  Meets Tryz.prog 182 [v] [(v,V p)] (fun r os fs=>os=[]∧fs=[(r,zd (cO (vv p):Nat))]):=by
 have hs:∀ i,sz (cO ((vv p).take i):Nat) k:=fun i=>qH (hp.szR.take i)
 have hst:∀ i,i<p.length→Nat.gcd (cO ((vv p).take i)) (jv (p.getD i z0)).natAbs=cO ((vv p).take (i+1)):=fun i hi=>by
  rw [cont_take (by rw [cP]; exact hi),l9 p i hi]
 have hlast:cO ((vv p).take p.length)=cO (vv p):=by rw [List.take_of_length_le (by rw [cP]; exact Nat.le_refl _)]
 have h00:cO ((vv p).take 0)=0:=rfl
 generalize hC:(fun i=>cO ((vv p).take i))=C
 have hs':∀ i,sz (C i:Nat) k:=fun i=>by rw [← hC]; exact hs i
 have hst':∀ i,i<p.length→Nat.gcd (C i) (jv (p.getD i z0)).natAbs=C (i+1):=fun i hi=>by rw [← hC]; exact hst i hi
 have hlast':C p.length=cO (vv p):=by rw [← hC]; exact hlast
 have h0':C 0=0:=by rw [← hC]; exact h00
 refine mV Tryz.func182 ?_
 refine aH (d:=I false []) fun o ho=>?_
 refine nT (da:=.one (.bool false)) (db:=U (bQ 0)) (fun S w=>⟨[.bool false],[.slice none 0 0],rfl,fL S w,by rw [cD]; exact iH S w 1 _⟩) fun z=>?_
 refine aH (d:=I false []) fun s hs1=>?_
 refine aF (d:=zd 0) 0 rfl hs1 rfl qK ?_ ?_; exact aB qM
 refine aO qM fun _=>?_
 refine aT (X:=Nat) (fun i=>([(2,o),(3,s),(7,v),(8,.int .i64 (p.length:Nat)),(9,.int .i64 (i:Nat))],[bK s 2 1 (fun _=>zd (C i:Nat)),bK o 2 1 (fun _=>I false [])],[(v,V p)])) (fun i=>i≤p.length) (fun i=>p.length - i) rfl ?_ ?_
 ·exact aU 0 (Nat.zero_le _) trivial qF (aC (bB (by rw [h0']; rfl)) (aA qS))
 ·rintro i hi
  refine aE _ rfl (fun hlt=>?_) (fun hlt=>?_)
  ·have hin:i<p.length:=by omega
   have hsi:=hs' i
   have hpi:=hp.get i
   refine aK qM i rfl hin fun b1=>?_
   refine aM (d:=J (p.getD i z0)) qM (a8 _) fun y1=>?_
   refine aH (d:=I false []) fun q hq=>?_
   refine aF (d:=J (p.getD i z0)) 0 rfl hq rfl qK ?_ ?_; exact aB qM
   refine aD (d:=zd (C i:Nat)) 1 rfl hs1 rfl (aN _ _) fun y2=>?_
   refine aD (d:=J (p.getD i z0)) 0 rfl hq rfl (a8 _) fun y3=>?_
   have hg:=zGcdJ y2 y3 (cn (C i:Nat)) (p.getD i z0) (aY _) (Nat.le_trans hsi.len hk) hpi.1 qN
   rw [eG,Int.natAbs_natCast,hst' i hin] at hg
   refine cG hg fun y4=>?_
   refine aF (d:=zd (C (i+1):Nat)) 1 rfl hs1 rfl qK ?_ ?_; exact aB qM
   refine ar rfl qI ?_
   exact aU (i+1) qN (by simp only; omega) qF (dS (aC (bB rfl) (aA qS)))
  ·have hip:i=p.length:=by omega
   subst hip
   have hsn:=hs' p.length
   rw [hlast'] at hsn
   rw [hlast']
   have hab:=fun y=>zAbsZ y _ _ hsn hk
   simp only [Int.natAbs_natCast] at hab
   refine aD (d:=zd (cO (vv p):Nat)) 0 rfl hs1 rfl (aN _ _) fun y1=>?_
   refine cG (hab y1) fun y2=>?_
   refine aF (d:=zd (cO (vv p):Nat)) 1 rfl ho rfl qK ?_ ?_; exact aB qM
   refine aD (d:=zd (cO (vv p):Nat)) 1 rfl ho rfl (aN _ _) fun r=>?_
   exact fin ⟨rfl,rfl⟩ (dS (dS (aA qS)))
theorem uG {K:cC} {os:List Own} {fs:List bI} (pos:Nat) {v:Value} {l:List Int} {k:Nat} (h:bD os pos=some (i8 2 J z0 v (l.map cn))) (hs:isSl v) (hp:szR k l) (hk:k≤137438953472)
  (kk:∀ r,K r os ((r,zd (cO l:Nat))::fs)):CallK Tryz.prog false (.func (.func 182) #[] #[]) [v] os fs K:=by
 have hs0:∀ i,sz (cO (l.take i):Nat) k:=fun i=>qH (hp.take i)
 have hst:∀ i,i<l.length→Nat.gcd (cO (l.take i)) (l.getD i 0).natAbs=cO (l.take (i+1)):=fun i hi=>by
  rw [cont_take hi]
 have hlast:cO (l.take l.length)=cO l:=by rw [List.take_of_length_le (Nat.le_refl _)]
 have h00:cO (l.take 0)=0:=rfl
 generalize hC:(fun i=>cO (l.take i))=C
 have hs':∀ i,sz (C i:Nat) k:=fun i=>by rw [← hC]; exact hs0 i
 have hst':∀ i,i<l.length→Nat.gcd (C i) (l.getD i 0).natAbs=C (i+1):=fun i hi=>by rw [← hC]; exact hst i hi
 have hlast':C l.length=cO l:=by rw [← hC]; exact hlast
 have h0':C 0=0:=by rw [← hC]; exact h00
 have hml:(l.map cn).length=l.length:=List.length_map _
 refine fE Tryz.func182 qK rfl qK (Nat.le_of_ble_eq_true rfl) ?_
 refine aH (d:=I false []) fun o ho=>?_
 refine nT (da:=.one (.bool false)) (db:=U (bQ 0)) (fun S w=>⟨[.bool false],[.slice none 0 0],rfl,fL S w,by rw [cD]; exact iH S w 1 _⟩) fun z=>?_
 refine aH (d:=I false []) fun s hs1=>?_
 refine aF (d:=zd 0) 0 rfl hs1 rfl qK ?_ ?_; exact aB qM
 refine dV (pos+2) h hs fun _=>?_
 refine aT (X:=Nat) (fun i=>([(2,o),(3,s),(7,v),(8,.int .i64 ((l.map cn).length:Nat)),(9,.int .i64 (i:Nat))],bK s 2 1 (fun _=>zd (C i:Nat))::bK o 2 1 (fun _=>I false [])::os,fs)) (fun i=>i≤l.length) (fun i=>l.length - i) rfl ?_ ?_
 ·exact aU 0 (Nat.zero_le _) trivial qF (aC (bB (by rw [h0']; rfl)) (aA qD))
 ·rintro i hi
  refine aE _ rfl (fun hlt=>?_) (fun hlt=>?_)
  ·have hin:i<l.length:=by omega
   have hsi:=hs' i
   have hpi:=hp.get i
   refine aI (pos+2) h hs i rfl qN ?_
   refine bL (d:=zd (l.getD i 0)) (pos+2) h i qN (by rw [eZ hin]; rfl) (aN _ _) fun y1=>?_
   refine aH (d:=I false []) fun q hq=>?_
   refine aF (d:=zd (l.getD i 0)) 0 rfl hq rfl qK ?_ ?_; exact aB qM
   refine aD (d:=zd (C i:Nat)) 1 rfl hs1 rfl (aN _ _) fun y2=>?_
   refine aD (d:=zd (l.getD i 0)) 0 rfl hq rfl (aN _ _) fun y3=>?_
   have hg:=zGcdZ y2 y3 _ _ _ _ hsi hpi hk hk
   rw [Int.natAbs_natCast,hst' i hin] at hg
   refine cG hg fun y4=>?_
   refine aF (d:=zd (C (i+1):Nat)) 1 rfl hs1 rfl qK ?_ ?_; exact aB qM
   refine ar rfl qI ?_
   exact aU (i+1) qN (by simp only; omega) qF (dS (aC (bB rfl) (aA qD)))
  ·have hip:i=l.length:=by omega
   subst hip
   have hsn:=hs' l.length
   rw [hlast'] at hsn
   rw [hlast']
   have hab:=fun y=>zAbsZ y _ _ hsn hk
   simp only [Int.natAbs_natCast] at hab
   refine aD (d:=zd (cO l:Nat)) 0 rfl hs1 rfl (aN _ _) fun y1=>?_
   refine cG (hab y1) fun y2=>?_
   refine aF (d:=zd (cO l:Nat)) 1 rfl ho rfl qK ?_ ?_; exact aB qM
   refine aD (d:=zd (cO l:Nat)) 1 rfl ho rfl (aN _ _) fun r=>?_
   exact fin (kk r) (dS (dS (aA (fun F hF=>by
    rcases List.mem_cons.1 hF with rfl | hF
    ·exact List.Mem.head _
    ·repeat (first | exact hF | apply List.Mem.tail)))))
theorem lead_call {K:cC} {os:List Own} {fs:List bI} (pos:Nat) {v:Value} {l:List Int} (h:bD os pos=some (i8 2 J z0 v (l.map cn))) (hs:isSl v)
  (kk:∀ r,K r os ((r,zd (l.getD (l.length - 1) 0))::fs)):CallK Tryz.prog false (.func (.func 121) #[] #[]) [v] os fs K:=by
 have hml:(l.map cn).length=l.length:=List.length_map _
 refine fE Tryz.func121 qK rfl qK (Nat.le_of_ble_eq_true rfl) ?_
 refine aH (d:=I false []) fun o ho=>?_
 refine dV (pos+1) h hs fun _=>?_
 refine aE _ rfl (fun h0=>?_) (fun h0=>?_)
 ·have h0:l=[]:=List.length_eq_zero_iff.1 qN
  subst h0
  refine nT (da:=.one (.bool false)) (db:=U (bQ 0)) (fun S w=>⟨[.bool false],[.slice none 0 0],rfl,fL S w,by rw [cD]; exact iH S w 1 _⟩) fun z=>?_
  refine aF (d:=zd 0) 0 rfl ho rfl qK ?_ ?_; exact aB qM
  refine aD (d:=zd 0) 0 rfl ho rfl (aN _ _) fun r=>?_
  exact fin (kk r) (dS (aA (fun F hF=>by
    rcases List.mem_cons.1 hF with rfl | hF
    ·exact List.Mem.head _
    ·repeat (first | exact hF | apply List.Mem.tail))))
 ·refine dV (pos+1) h hs fun _=>?_
  refine ar rfl qI ?_
  refine aI (pos+1) h hs (l.length - 1) qN qN ?_
  refine bL (d:=zd (l.getD (l.length - 1) 0)) (pos+1) h (l.length - 1) qN (by rw [eZ qN]; rfl) (aN _ _) fun y1=>?_
  refine aF (d:=zd (l.getD (l.length - 1) 0)) 0 rfl ho rfl qK ?_ ?_; exact aB qM
  refine aD (d:=zd (l.getD (l.length - 1) 0)) 0 rfl ho rfl (aN _ _) fun r=>?_
  exact fin (kk r) (dS (aA (fun F hF=>by
    rcases List.mem_cons.1 hF with rfl | hF
    ·exact List.Mem.head _
    ·repeat (first | exact hF | apply List.Mem.tail))))
theorem sign_lt {x:Int}:x.sign<0↔x<0:=by
 rcases Int.lt_trichotomy x 0 with h | h | h
 ·rw [Int.sign_eq_neg_one_of_neg h]; omega
 ·rw [h]; simp
 ·rw [Int.sign_eq_one_of_pos h]; omega
theorem ld_nrm (l:List Int):(nrm l).getD ((nrm l).length - 1) 0=ld l:=by rw [gM]; rfl
theorem cont_nrm (l:List Int):cO (nrm l)=cO l:=sE (dL l)
theorem div_s (A:List Int) (g:Int) (i y:Nat):upd (fun y=>zd (if y<i then A.getD y 0/g else A.getD y 0)) i (zd (A.getD i 0/g)) y=zd (if y<i+1 then A.getD y 0/g else A.getD y 0) :=
 upd_zd (G:=fun y=>if y<i then A.getD y 0/g else A.getD y 0) (H:=fun y=>if y<i+1 then A.getD y 0/g else A.getD y 0) (by
  rw [if_pos qN]) (fun y hy=>by
  by_cases h2:y<i
  ·rw [if_pos h2,if_pos qN]
  ·rw [if_neg h2,if_neg qN]) y
theorem lst_map (A:List Int) (f:Int→Int):lst A.length (fun i=>f (A.getD i 0))=A.map f:=by
 refine List.ext_getElem? fun i=>?_
 by_cases h:i<A.length
 ·simp [lst,h]
 ·simp [lst,h]
theorem iL (v:Value) (p:Row) (k:Nat) (hp:Fit k p) (hk:k≤137438953472) (lp:p.length≤1073741824) :
  Meets Tryz.prog 180 [v] [(v,V p)] (fun r os fs=>os=[]∧fs=[(r,vd (pprim (vv p)))]):=by
 have h1:=kI v p (hp.mono qN) qN
 have sa:=hp.szR.nrm
 have la:(nrm (vv p)).length≤p.length:=Nat.le_trans (bX _) (by rw [cP]; exact Nat.le_refl _)
 have hcn:=cont_nrm (vv p)
 have hld:=ld_nrm (vv p)
 have hdef:pprim (vv p)=nrm ((nrm (vv p)).map fun y=>y/kL (vv p)):=rfl
 have hsc:kL (vv p)=if ld (vv p)<0 then - (cO (vv p):Int) else cO (vv p):=rfl
 have hne:0<(nrm (vv p)).length→kL (vv p)≠0:=fun h e=>by
  have h2:=fK (vv p)
  rw [e] at h2
  have h3:=eD.1 h2.symm
  unfold dg at h3; omega
 have hgs:sz (kL (vv p)) k:=by
  unfold sz
  rw [fK]
  have:=qH hp.szR
  unfold sz at this
  rwa [Int.natAbs_natCast] at this
 have hcs:sz (cO (vv p):Nat) k:=qH hp.szR
 rw [hdef]
 generalize hA:nrm (vv p)=A at *
 generalize hg:kL (vv p)=g at *
 have hml:(A.map cn).length=A.length:=List.length_map _
 have hcv:∀ y,y<A.length→J ((A.map cn).getD y z0)=zd (if y<0 then A.getD y 0/g else A.getD y 0):=fun y hy=>by rw [eZ hy,if_neg (Nat.not_lt_zero _)]; rfl
 have hn:∀ r,Meets Tryz.prog 55 [r] [(r,vd (lst A.length fun y=>A.getD y 0/g))] (fun r os fs=>os=[]∧fs=[(r,vd (nrm (A.map fun y=>y/g)))]):=fun r=>by
  rw [← lst_map A fun y=>y/g]
  exact pNormT r (lst A.length fun y=>A.getD y 0/g) ((szR.lst fun i _=>pL (sa.get i)).mono hk) (by rw [dF]; omega)
 refine mV Tryz.func180 ?_
 refine cF h1 ?_
 rintro r _ _ ⟨hr,rfl,rfl⟩
 refine uG 0 rfl hr sa hk fun x1=>?_
 rw [hcn]
 refine aH (d:=I false []) fun c hc=>?_
 refine aF (d:=zd (cO (vv p):Nat)) 0 rfl hc rfl qK ?_ ?_; exact aB qM
 refine lead_call 1 rfl hr fun x2=>?_
 rw [hld]
 refine cH (zSignZ x2 (ld (vv p)) k (by rw [← hld]; exact sa.get _) hk) ?_
 refine aE _ rfl (fun hz=>?_) (fun hz=>?_)
 ·rw [if_pos (sign_lt.1 hz)] at hsc
  have hneg:=fun y=>zNegZ y _ k hcs hk
  rw [← hsc] at hneg
  refine aD (d:=zd (cO (vv p):Nat)) 0 rfl hc rfl (aN _ _) fun y1=>?_
  refine cG (hneg y1) fun y2=>?_
  refine aF (d:=zd g) 0 rfl hc rfl qK ?_ ?_; exact aB qM
  refine dV 1 rfl hr fun _=>?_
  refine aT (X:=Nat) (fun i=>([(3,r),(4,c),(17,.int .i64 ((A.map cn).length:Nat)),(18,.int .i64 (i:Nat))],[bK c 2 1 (fun _=>zd g),bK r 2 A.length (fun y=>zd (if y<i then A.getD y 0/g else A.getD y 0))],[])) (fun i=>i≤A.length) (fun i=>A.length - i) rfl ?_ ?_
  ·exact aU 0 (Nat.zero_le _) trivial qF (aC (bB rfl) (aC (Seals.own_cong (os:=[_,i8 2 J z0 r (A.map cn)]) 1 (n':=A.length) (fun y=>zd (if y<0 then A.getD y 0/g else A.getD y 0)) rfl (by rw [List.length_map]) fun y hy=>hcv y (by rw [List.length_map] at hy; exact hy)) (aA qS)))
  ·rintro i hi
   refine aE _ rfl (fun hlt=>?_) (fun hlt=>?_)
   ·have hin:i<A.length:=by omega
    have hai:=sa.get i
    have hg0:=hne qN
    refine eN [0,1,2,3,4,5,6,7,8,9,12,13,10,11] qK ?_
    refine a7 10 13 qK qK qK ?_ ?_
    ·refine a7 11 13 qK qK qK ?_ ?_
     ·
      refine cB [0,1,2,3,4,5,6,7,8,9,10,11,12,13] qK qK ?_
      refine aI 1 rfl hr i rfl qN ?_
      refine bL (d:=zd (A.getD i 0)) 1 rfl i qN (by rw [if_neg qN]) (aN _ _) fun y1=>?_
      refine aD (d:=zd g) 0 rfl hc rfl (aN _ _) fun y2=>?_
      refine cF (gZ y1 y2 _ _ _ _ hai hgs qN qN hg0) ?_
      rintro _ _ _ ⟨rfl,y3,y4,rfl,rfl⟩
      refine aI 1 rfl hr i rfl qN ?_
      refine c9 (bP (d:=zd (A.getD i 0/g)) 1 rfl i qN rfl qK (aB qM) ⟨_,_,Seals.own_cong (os:=[_,_]) 1 (fun y=>zd (if y<i+1 then A.getD y 0/g else A.getD y 0)) rfl rfl (fun y _=>div_s A g i y),?_⟩)
      refine ar rfl qI ?_
      exact aU (i+1) qN (by simp only; omega) qF (aC (bB rfl) (aA qS))
     ·
      refine cB [0,1,2,3,4,5,6,7,8,9,10,12,13,11] qK qK ?_
      refine aI 1 rfl hr i rfl qN ?_
      refine bL (d:=zd (A.getD i 0)) 1 rfl i qN (by rw [if_neg qN]) (aN _ _) fun y1=>?_
      refine aD (d:=zd g) 0 rfl hc rfl (aN _ _) fun y2=>?_
      refine cF (gZ y1 y2 _ _ _ _ hai hgs qN qN hg0) ?_
      rintro _ _ _ ⟨rfl,y3,y4,rfl,rfl⟩
      refine aI 1 rfl hr i rfl qN ?_
      refine c9 (bP (d:=zd (A.getD i 0/g)) 1 rfl i qN rfl qK (aB qM) ⟨_,_,Seals.own_cong (os:=[_,_]) 1 (fun y=>zd (if y<i+1 then A.getD y 0/g else A.getD y 0)) rfl rfl (fun y _=>div_s A g i y),?_⟩)
      refine ar rfl qI ?_
      exact aU (i+1) qN (by simp only; omega) qF (aC (bB rfl) (aA qS))
    ·refine a7 11 13 qK qK qK ?_ ?_
     ·
      refine cB [0,1,2,3,4,5,6,7,8,9,11,12,13,10] qK qK ?_
      refine aI 1 rfl hr i rfl qN ?_
      refine bL (d:=zd (A.getD i 0)) 1 rfl i qN (by rw [if_neg qN]) (aN _ _) fun y1=>?_
      refine aD (d:=zd g) 0 rfl hc rfl (aN _ _) fun y2=>?_
      refine cF (gZ y1 y2 _ _ _ _ hai hgs qN qN hg0) ?_
      rintro _ _ _ ⟨rfl,y3,y4,rfl,rfl⟩
      refine aI 1 rfl hr i rfl qN ?_
      refine c9 (bP (d:=zd (A.getD i 0/g)) 1 rfl i qN rfl qK (aB qM) ⟨_,_,Seals.own_cong (os:=[_,_]) 1 (fun y=>zd (if y<i+1 then A.getD y 0/g else A.getD y 0)) rfl rfl (fun y _=>div_s A g i y),?_⟩)
      refine ar rfl qI ?_
      exact aU (i+1) qN (by simp only; omega) qF (aC (bB rfl) (aA qS))
     ·
      refine cB [0,1,2,3,4,5,6,7,8,9,12,13,10,11] qK qK ?_
      refine aI 1 rfl hr i rfl qN ?_
      refine bL (d:=zd (A.getD i 0)) 1 rfl i qN (by rw [if_neg qN]) (aN _ _) fun y1=>?_
      refine aD (d:=zd g) 0 rfl hc rfl (aN _ _) fun y2=>?_
      refine cF (gZ y1 y2 _ _ _ _ hai hgs qN qN hg0) ?_
      rintro _ _ _ ⟨rfl,y3,y4,rfl,rfl⟩
      refine aI 1 rfl hr i rfl qN ?_
      refine c9 (bP (d:=zd (A.getD i 0/g)) 1 rfl i qN rfl qK (aB qM) ⟨_,_,Seals.own_cong (os:=[_,_]) 1 (fun y=>zd (if y<i+1 then A.getD y 0/g else A.getD y 0)) rfl rfl (fun y _=>div_s A g i y),?_⟩)
      refine ar rfl qI ?_
      exact aU (i+1) qN (by simp only; omega) qF (aC (bB rfl) (aA qS))
   ·have hip:i=A.length:=by omega
    subst hip
    refine c8 (hn r) (dS (Seals.told (g:=fun y=>A.getD y 0/g) hr fun y hy=>by rw [if_pos hy])) qS ?_
    rintro u _ _ ⟨rfl,rfl⟩
    exact fin ⟨rfl,rfl⟩ (aA qS)
 ·rw [if_neg fun h=>hz (sign_lt.2 h)] at hsc
  rw [← hsc]
  refine dV 1 rfl hr fun _=>?_
  refine aT (X:=Nat) (fun i=>([(3,r),(4,c),(17,.int .i64 ((A.map cn).length:Nat)),(18,.int .i64 (i:Nat))],[bK c 2 1 (fun _=>zd g),bK r 2 A.length (fun y=>zd (if y<i then A.getD y 0/g else A.getD y 0))],[])) (fun i=>i≤A.length) (fun i=>A.length - i) rfl ?_ ?_
  ·exact aU 0 (Nat.zero_le _) trivial qF (aC (bB rfl) (aC (Seals.own_cong (os:=[_,i8 2 J z0 r (A.map cn)]) 1 (n':=A.length) (fun y=>zd (if y<0 then A.getD y 0/g else A.getD y 0)) rfl (by rw [List.length_map]) fun y hy=>hcv y (by rw [List.length_map] at hy; exact hy)) (aA qS)))
  ·rintro i hi
   refine aE _ rfl (fun hlt=>?_) (fun hlt=>?_)
   ·have hin:i<A.length:=by omega
    have hai:=sa.get i
    have hg0:=hne qN
    refine eN [0,1,2,3,4,5,6,7,8,9,12,13,10,11] qK ?_
    refine a7 10 13 qK qK qK ?_ ?_
    ·refine a7 11 13 qK qK qK ?_ ?_
     ·
      refine cB [0,1,2,3,4,5,6,7,8,9,10,11,12,13] qK qK ?_
      refine aI 1 rfl hr i rfl qN ?_
      refine bL (d:=zd (A.getD i 0)) 1 rfl i qN (by rw [if_neg qN]) (aN _ _) fun y1=>?_
      refine aD (d:=zd g) 0 rfl hc rfl (aN _ _) fun y2=>?_
      refine cF (gZ y1 y2 _ _ _ _ hai hgs qN qN hg0) ?_
      rintro _ _ _ ⟨rfl,y3,y4,rfl,rfl⟩
      refine aI 1 rfl hr i rfl qN ?_
      refine c9 (bP (d:=zd (A.getD i 0/g)) 1 rfl i qN rfl qK (aB qM) ⟨_,_,Seals.own_cong (os:=[_,_]) 1 (fun y=>zd (if y<i+1 then A.getD y 0/g else A.getD y 0)) rfl rfl (fun y _=>div_s A g i y),?_⟩)
      refine ar rfl qI ?_
      exact aU (i+1) qN (by simp only; omega) qF (aC (bB rfl) (aA qS))
     ·
      refine cB [0,1,2,3,4,5,6,7,8,9,10,12,13,11] qK qK ?_
      refine aI 1 rfl hr i rfl qN ?_
      refine bL (d:=zd (A.getD i 0)) 1 rfl i qN (by rw [if_neg qN]) (aN _ _) fun y1=>?_
      refine aD (d:=zd g) 0 rfl hc rfl (aN _ _) fun y2=>?_
      refine cF (gZ y1 y2 _ _ _ _ hai hgs qN qN hg0) ?_
      rintro _ _ _ ⟨rfl,y3,y4,rfl,rfl⟩
      refine aI 1 rfl hr i rfl qN ?_
      refine c9 (bP (d:=zd (A.getD i 0/g)) 1 rfl i qN rfl qK (aB qM) ⟨_,_,Seals.own_cong (os:=[_,_]) 1 (fun y=>zd (if y<i+1 then A.getD y 0/g else A.getD y 0)) rfl rfl (fun y _=>div_s A g i y),?_⟩)
      refine ar rfl qI ?_
      exact aU (i+1) qN (by simp only; omega) qF (aC (bB rfl) (aA qS))
    ·refine a7 11 13 qK qK qK ?_ ?_
     ·
      refine cB [0,1,2,3,4,5,6,7,8,9,11,12,13,10] qK qK ?_
      refine aI 1 rfl hr i rfl qN ?_
      refine bL (d:=zd (A.getD i 0)) 1 rfl i qN (by rw [if_neg qN]) (aN _ _) fun y1=>?_
      refine aD (d:=zd g) 0 rfl hc rfl (aN _ _) fun y2=>?_
      refine cF (gZ y1 y2 _ _ _ _ hai hgs qN qN hg0) ?_
      rintro _ _ _ ⟨rfl,y3,y4,rfl,rfl⟩
      refine aI 1 rfl hr i rfl qN ?_
      refine c9 (bP (d:=zd (A.getD i 0/g)) 1 rfl i qN rfl qK (aB qM) ⟨_,_,Seals.own_cong (os:=[_,_]) 1 (fun y=>zd (if y<i+1 then A.getD y 0/g else A.getD y 0)) rfl rfl (fun y _=>div_s A g i y),?_⟩)
      refine ar rfl qI ?_
      exact aU (i+1) qN (by simp only; omega) qF (aC (bB rfl) (aA qS))
     ·
      refine cB [0,1,2,3,4,5,6,7,8,9,12,13,10,11] qK qK ?_
      refine aI 1 rfl hr i rfl qN ?_
      refine bL (d:=zd (A.getD i 0)) 1 rfl i qN (by rw [if_neg qN]) (aN _ _) fun y1=>?_
      refine aD (d:=zd g) 0 rfl hc rfl (aN _ _) fun y2=>?_
      refine cF (gZ y1 y2 _ _ _ _ hai hgs qN qN hg0) ?_
      rintro _ _ _ ⟨rfl,y3,y4,rfl,rfl⟩
      refine aI 1 rfl hr i rfl qN ?_
      refine c9 (bP (d:=zd (A.getD i 0/g)) 1 rfl i qN rfl qK (aB qM) ⟨_,_,Seals.own_cong (os:=[_,_]) 1 (fun y=>zd (if y<i+1 then A.getD y 0/g else A.getD y 0)) rfl rfl (fun y _=>div_s A g i y),?_⟩)
      refine ar rfl qI ?_
      exact aU (i+1) qN (by simp only; omega) qF (aC (bB rfl) (aA qS))
   ·have hip:i=A.length:=by omega
    subst hip
    refine c8 (hn r) (dS (Seals.told (g:=fun y=>A.getD y 0/g) hr fun y hy=>by rw [if_pos hy])) qS ?_
    rintro u _ _ ⟨rfl,rfl⟩
    exact fin ⟨rfl,rfl⟩ (aA qS)
theorem pPrimitiveT (v:Value) (p:List Int) (k:Nat) (hp:szR k p) (hk:k≤137438953472) (lp:p.length≤1073741824) :
  Meets Tryz.prog 180 [v] [(v,vd p)] (fun r os fs=>os=[]∧fs=[(r,vd (pprim p))]):=by
 have h:=iL v (p.map cn) k hp.fit hk (by rw [List.length_map]; exact lp)
 rw [fH] at h
 exact h
theorem ld_nm {l:List Int} (h:Nm l):ld l=l.getD (l.length - 1) 0:=by unfold ld; rw [eK h]
theorem pLeadN (v:Value) (l:List Int) (hl:Nm l) (h0:0<l.length) :
  Meets Tryz.prog 121 [v] [(v,vd l)] (fun r os fs=>os=[]∧fs=[(r,zd (ld l))]):=by
 rw [ld_nm hl]
 exact pLeadT v l (List.length_pos_iff.1 h0)
structure nN (p q t r:List Int):Prop where
 tn:Nm t
 rn:Nm r
 low:dg r<dg q
 eq:∀ x,ld q^(dg p+1 - dg q)*pev p x=pev q x*pev t x+pev r x
def rT (D T R:List Int):List Int:=padd (prai (ld D) 0 T) (prai (ld R) (R.length - D.length) [1])
def rR (D R:List Int):List Int:=psub (prai (ld D) 0 R) (prai (ld R) (R.length - D.length) D)
theorem rest_step {D T R P:List Int} {j:Nat} (hD:Nm D) (hR:Nm R) (h0:0<D.length) (hl:D.length≤R.length) (e:∀ x,ld D^j*pev P x=pev D x*pev T x+pev R x) :
  (∀ x,ld D^(j+1)*pev P x=pev D x*pev (rT D T R) x+pev (rR D R) x)∧(rR D R).length<R.length:=by
 constructor
 ·intro x
  have h:=e x
  rw [rT,rR,fV,iF,jQ,jQ,jQ,jQ,Int.pow_succ]
  simp only [pev,Int.pow_zero] at h ⊢
  grind
 ·have:=red_dg (p:=R) (q:=D) (by rw [eK hD]; exact h0) (by rw [eK hD,eK hR]; exact hl)
  rw [eK hD,eK hR,eK (vY _ _)] at this
  exact this
theorem rest_more {D T R P:List Int} {j:Nat} (e:∀ x,ld D^j*pev P x=pev D x*pev T x+pev R x) :
  ∀ x,ld D^(j+1)*pev P x=pev D x*pev (prai (ld D) 0 T) x+pev (prai (ld D) 0 R) x:=fun x=>by
 have h:=e x
 rw [jQ,jQ,Int.pow_succ]
 simp only [Int.pow_zero] at h ⊢
 grind
theorem rT_len {D T R:List Int} {n:Nat} (h0:0<D.length) (hl:D.length≤R.length) (hT:T.length≤n) (hR:R.length≤n):(rT D T R).length≤n:=by
 have h1:=padd_len (prai (ld D) 0 T) (prai (ld R) (R.length - D.length) [1])
 have h2:=jF (ld D) 0 T
 have h3:=jF (ld R) (R.length - D.length) [1]
 simp only [List.length_cons,List.length_nil] at h3
 unfold rT
 omega
theorem rT_sz {D T R:List Int} {e k:Nat} (hD:szR k D) (hT:szR e T) (hR:szR e R) (hk:1≤k):szR (e+k+1) (rT D T R):=by
 have h1:szR (e+k) (prai (ld R) (R.length - D.length) [1]):=by
  have:szR k [1]:=fun x hx=>by
   rw [List.mem_singleton.1 hx]; exact (kH 1 qE).mono hk
  have:=this.prai (hR.get (dg R - 1)) (R.length - D.length)
  rwa [Nat.add_comm] at this
 exact (hT.prai (hD.get (dg D - 1)) 0).padd h1
theorem rR_sz {D R:List Int} {e k:Nat} (hD:szR k D) (hR:szR e R):szR (e+k+1) (rR D R):=by
 have h1:szR (e+k) (prai (ld R) (R.length - D.length) D):=by
  have:=hD.prai (hR.get (dg R - 1)) (R.length - D.length)
  rwa [Nat.add_comm] at this
 exact (hR.prai (hD.get (dg D - 1)) 0).psub h1
theorem szR_one (k:Nat) (hk:1≤k):szR k [1]:=fun x hx=>by
 rw [List.mem_singleton.1 hx]; exact (kH 1 qE).mono hk
def re (k j:Nat):Nat:=k+j*(k+1)
theorem re_succ (k j:Nat):re k (j+1)=re k j+k+1:=by unfold re; rw [Nat.succ_mul]; omega
theorem re_mono {k j m:Nat} (h:j≤m):re k j≤re k m:=by
 unfold re
 have:=Nat.mul_le_mul_right (k+1) h
 omega
theorem re_ge (k j:Nat):k≤re k j:=by unfold re; omega
theorem lead_callN {K:cC} {os:List Own} {fs:List bI} (pos:Nat) {v:Value} {l:List Int} (h:bD os pos=some (i8 2 J z0 v (l.map cn))) (hs:isSl v) (hn:Nm l)
  (kk:∀ r,K r os ((r,zd (ld l))::fs)):CallK Tryz.prog false (.func (.func 121) #[] #[]) [v] os fs K :=
 lead_call pos h hs fun r=>by rw [← ld_nm hn]; exact kk r
theorem tZ (v w:Value) (p q:Row) (k:Nat) (hp:Fit k p) (hq:Fit k q) (h1k:1≤k) (hk:re k (p.length+1)≤137438953472) (lp:p.length≤536870912) (lq:q.length≤536870912) :
  Meets Tryz.prog 165 [v,w] [(v,V p),(w,V q)] (fun r os fs=>∃ a b T R,isSl b∧os=[i8 2 J z0 b (R.map cn)]∧(if dg (vv q)=0 then r=.tuple #[a,b,.int .i64 2]∧T=[]∧R=[] else r=.tuple #[a,b,.int .i64 0]∧nN (vv p) (vv q) T R∧szR (re k (dg (vv p)+1 - dg (vv q))) T∧szR (re k (dg (vv p)+1 - dg (vv q))) R∧T.length≤p.length∧R.length≤p.length) ∧
   fs=[(a,vd T)]):=by
 have hkk:k≤re k (p.length+1):=re_ge _ _
 have n1:=kI v p (hp.mono qN) qN
 have n2:=fR w q (hq.mono qN) qN
 have sP:=hp.szR.nrm
 have sD:=hq.szR.nrm
 have la:(nrm (vv p)).length≤p.length:=Nat.le_trans (bX _) (by rw [cP]; exact Nat.le_refl _)
 have lb:(nrm (vv q)).length≤q.length:=Nat.le_trans (bX _) (by rw [cP]; exact Nat.le_refl _)
 have hPn:Nm (nrm (vv p)):=iE _
 have hDn:Nm (nrm (vv q)):=iE _
 have hspec:∀ T R,Nm T→Nm R→R.length<(nrm (vv q)).length→(∀ x,ld (nrm (vv q))^((nrm (vv p)).length+1 - (nrm (vv q)).length)*pev (nrm (vv p)) x=pev (nrm (vv q)) x*pev T x+pev R x)→nN (vv p) (vv q) T R:=fun T R h1 h2 h3 h4 =>
  ⟨h1,h2,by rw [eK h2]; exact h3,fun x=>by
   have:=h4 x
   rw [dL,dL,ld_ext (dL (vv q))] at this
   exact this⟩
 have hdq:dg (vv q)=(nrm (vv q)).length:=rfl
 have hdp:dg (vv p)=(nrm (vv p)).length:=rfl
 rw [hdq,hdp]
 generalize hA:nrm (vv p)=A at *
 generalize hB:nrm (vv q)=D at *
 refine mV Tryz.func165 ?_
 refine cF n1 ?_
 rintro x1 _ _ ⟨hx1,rfl,rfl⟩
 refine cG n2 fun x2=>?_
 refine gH qM ?_
 refine aE _ rfl (fun hz=>?_) (fun hz=>?_)
 ·refine fin ⟨.slice none 0 0,.slice none 0 0,[],[],fF,rfl,?_,rfl⟩ (dS (aC (cK _ _ 2 _) (bA (dN 2 _) (aL _ _))))
  rw [if_pos qN]
  exact ⟨rfl,rfl,rfl⟩
 have hD0:0<D.length:=by omega
 have hml:∀ l:List Int,(l.map cn).length=l.length:=fun l=>List.length_map _
 have hmA:=hml A
 refine dV 0 rfl hx1 fun _=>?_
 refine gH qM ?_
 refine ar rfl qI ?_
 refine ar rfl qI ?_
 refine gS ?_
 have hld:sz (ld D) k:=sD.get _
 refine aT (X:=Value×Value×List Int×List Int×Nat) (fun x=>([(7,x.2.1),(8,x2),(9,.int .i64 (x.2.2.2.2:Nat)),(10,x.1)],[i8 2 J z0 x.2.1 (x.2.2.2.1.map cn)],[(x2,vd D),(x.1,vd x.2.2.1)]))
  (fun x=>isSl x.2.1∧Nm x.2.2.1∧Nm x.2.2.2.1∧x.2.2.2.2≤A.length+1 - D.length∧x.2.2.2.1.length<D.length+x.2.2.2.2∧x.2.2.1.length≤p.length∧x.2.2.2.1.length≤p.length∧szR (re k (A.length+1 - D.length - x.2.2.2.2)) x.2.2.1∧szR (re k (A.length+1 - D.length - x.2.2.2.2)) x.2.2.2.1 ∧
   ∀ y,ld D^(A.length+1 - D.length - x.2.2.2.2)*pev A y=pev D y*pev x.2.2.1 y+pev x.2.2.2.1 y) (fun x=>x.2.2.2.2) rfl ?_ ?_
 ·refine aU (.slice none 0 0,x1,[],A,A.length+1 - D.length) ⟨hx1,rfl,hPn,Nat.le_refl _,by simp only; omega,Nat.zero_le _,la,fun x hx=>by simp at hx,sP.mono (re_ge _ _),fun y=>by simp only [Nat.sub_self,Int.pow_zero,pev]; omega⟩ trivial qF ?_
  exact aC (aA (fs':=[(x2,vd D)]) qS) (aC (bA (dN 2 _) (aA (fs':=[(x2,vd D)]) qS)) (aA qS))
 ·rintro ⟨vt,vr,T,R,n⟩ ⟨hvr,g1,g2,g3,g4,g5,g6,g7,g8,g9⟩
  simp only at hvr g1 g2 g3 g4 g5 g6 g7 g8 g9 ⊢
  have hmR:=hml R
  refine dV 0 rfl hvr fun _=>?_
  refine gH qM ?_
  refine aE _ rfl (fun hge=>?_) (fun hge=>?_)
  ·have hge':D.length≤R.length:=by omega
   have hn1:A.length+1 - D.length - (n - 1)=A.length+1 - D.length - n+1:=by omega
   obtain ⟨s1,s2⟩:=rest_step hDn g2 hD0 hge' g9
   have hre:re k (A.length+1 - D.length - n)+k+1≤re k (p.length+1):=by
    rw [← re_succ]; exact re_mono qN
   have z1:=rT_sz sD g7 g8 h1k
   have z2:=rR_sz sD g8
   rw [← re_succ,← hn1] at z1 z2
   have hlR:sz (ld R) (re k (A.length+1 - D.length - n)):=g8.get _
   have c1:=fun u u'=>m8 u u' T (ld D) 0 _ k g7 hld qN qN qN
   have c2:=fun u u'=>m8 u u' [1] (ld R) (R.length - D.length) k _ (szR_one k h1k) hlR qN (by show 1≤_; omega) qN
   have c3:=fun u=>pSumT u (prai (ld D) 0 T) (prai (ld R) (R.length - D.length) [1]) (re k (A.length+1 - D.length - n)+k) (g7.prai hld 0) (by
    have:=(szR_one k h1k).prai hlR (R.length - D.length)
    rwa [Nat.add_comm] at this) qN (by have:=jF (ld D) 0 T; omega) (by have:=jF (ld R) (R.length - D.length) [1]; simp only [List.length_cons,List.length_nil] at this; omega)
   have c4:=fun u u'=>m8 u u' R (ld D) 0 _ k g8 hld qN qN qN
   have c5:=fun u u'=>m8 u u' D (ld R) (R.length - D.length) k _ sD hlR qN qN qN
   have c6:=fun u u'=>pSubOT u u' (prai (ld D) 0 R) (prai (ld R) (R.length - D.length) D) (re k (A.length+1 - D.length - n)+k) (g8.prai hld 0) (by
    have:=sD.prai hlR (R.length - D.length)
    rwa [Nat.add_comm] at this) qN (by have:=jF (ld D) 0 R; omega) (by have:=jF (ld R) (R.length - D.length) D; omega)
   have lT:=rT_len hD0 hge' g5 g6
   have e1:padd (prai (ld D) 0 T) (prai (ld R) (R.length - D.length) [1])=rT D T R:=rfl
   have e2:psub (prai (ld D) 0 R) (prai (ld R) (R.length - D.length) D)=rR D R:=rfl
   have tn:Nm (rT D T R):=wH _ _
   have rn:Nm (rR D R):=vY _ _
   rw [e1] at c3
   rw [e2] at c6
   refine lead_callN 0 rfl hvr g2 fun y1=>?_
   refine dV 0 rfl hvr fun _=>?_
   refine gH qM ?_
   refine ar rfl qI ?_
   refine aH (d:=I false []) fun c hc=>?_
   refine aF (d:=zd (ld R)) 0 rfl hc rfl qK ?_ ?_; exact aB qM
   refine a0 [0,1,6,7,2,3,4,5,8,9,10,11] [0,1,2,3,4,5,6,7,8,9,10,11] qK qK ?_
   refine aD (d:=zd (ld R)) 0 rfl hc rfl (aN _ _) fun y2=>?_
   refine cG (pLeadN x2 D hDn hD0) fun y3=>?_
   refine cG (c1 vt y3) fun y4=>?_
   refine cG (dW 1 qE qE) fun y5=>?_
   refine jN (size:=2) (f:=J) (z:=z0) (e:=26) (cn 1) qE (aB qM) rfl fun y6=>?_
   have c2':=c2 y6 y2
   rw [show ((R.length - D.length:Nat):Int)=((R.map cn).length:Int) - (D.length:Int) by omega] at c2'
   refine cG c2' fun y7=>?_
   refine lit2_L (size:=1) (f:=V) (z:=[]) (e:=23) ((prai (ld D) 0 T).map cn) ((prai (ld R) (R.length - D.length) [1]).map cn) qE (aB qM) (aB qM) rfl rfl fun y8=>?_
   refine cG (c3 y8) fun y9=>?_
   refine a0 [0,1,4,5,6,2,3,7,8,9] [0,1,2,3,4,5,6,7,8,9] qK qK ?_
   refine aD (d:=zd (ld R)) 0 rfl hc rfl (aN _ _) fun y10=>?_
   refine cG (pLeadN x2 D hDn hD0) fun y11=>?_
   refine c8 (c4 vr y11) (Seals.L 1 rfl hvr) qS ?_
   rintro y12 _ _ ⟨rfl,rfl⟩
   have c5':=c5 x2 y10
   rw [show ((R.length - D.length:Nat):Int)=((R.map cn).length:Int) - (D.length:Int) by omega] at c5'
   refine cG c5' fun y13=>?_
   refine cF (c6 y12 y13) ?_
   rintro y14 _ _ ⟨hy14,rfl,rfl⟩
   refine ar rfl qI ?_
   refine aU (y9,y14,rT D T R,rR D R,n - 1) ⟨hy14,tn,rn,by simp only; omega,by simp only; omega,lT,by simp only; omega,z1,z2,fun y=>by simp only; rw [hn1]; exact s1 y⟩ (by simp only; omega) qF ?_
   exact aC (aW 1 _ _) (aA qS)
  ·have hlt:R.length<D.length:=by omega
   refine aT (X:=Value×Value×List Int×List Int×Nat) (fun x=>([(7,x.2.1),(8,x2),(10,x.1),(61,.int .i64 (n:Nat)),(62,.int .i64 (x.2.2.2.2:Nat))],[i8 2 J z0 x.2.1 (x.2.2.2.1.map cn)],[(x2,vd D),(x.1,vd x.2.2.1)]))
    (fun x=>isSl x.2.1∧Nm x.2.2.1∧Nm x.2.2.2.1∧x.2.2.2.2≤n∧x.2.2.2.1.length<D.length∧x.2.2.1.length≤p.length∧x.2.2.2.1.length≤p.length∧szR (re k (A.length+1 - D.length - n+x.2.2.2.2)) x.2.2.1∧szR (re k (A.length+1 - D.length - n+x.2.2.2.2)) x.2.2.2.1 ∧
     ∀ y,ld D^(A.length+1 - D.length - n+x.2.2.2.2)*pev A y=pev D y*pev x.2.2.1 y+pev x.2.2.2.1 y) (fun x=>n - x.2.2.2.2) rfl ?_ ?_
   ·exact aU (vt,vr,T,R,0) ⟨hvr,g1,g2,Nat.zero_le _,hlt,g5,g6,g7,g8,g9⟩ trivial qF (aA qS)
   ·rintro ⟨vt,vr,T,R,i⟩ ⟨hvr,g1,g2,g3',g4,g5,g6,g7,g8,g9⟩
    simp only at hvr g1 g2 g3' g4 g5 g6 g7 g8 g9 ⊢
    refine aE _ rfl (fun hlt=>?_) (fun hlt=>?_)
    ·have hin:i<n:=by omega
     have s1:=rest_more g9
     have hre:re k (A.length+1 - D.length - n+i)+k+1≤re k (p.length+1):=by
      rw [← re_succ]; exact re_mono qN
     have hre2:re k (A.length+1 - D.length - n+i)+k≤re k (A.length+1 - D.length - n+(i+1)):=by
      have:=re_succ k (A.length+1 - D.length - n+i)
      rw [show A.length+1 - D.length - n+i+1=A.length+1 - D.length - n+(i+1) by omega] at this
      omega
     have z1:=(g7.prai hld 0).mono hre2
     have z2:=(g8.prai hld 0).mono hre2
     have l1:=jF (ld D) 0 T
     have l2:=jF (ld D) 0 R
     have c1:=fun u u'=>m8 u u' T (ld D) 0 _ k g7 hld qN qN qN
     have c4:=fun u u'=>pRaisedOT u u' R (ld D) 0 _ k g8 hld qN qN qN
     refine cG (pLeadN x2 D hDn hD0) fun y3=>?_
     refine cG (c1 vt y3) fun y4=>?_
     refine cG (pLeadN x2 D hDn hD0) fun y5=>?_
     refine c8 (c4 vr y5) (Seals.L 0 rfl hvr) qS ?_
     rintro y6 _ _ ⟨hy6,rfl,rfl⟩
     refine ar rfl qI ?_
     refine aU (y4,y6,prai (ld D) 0 T,prai (ld D) 0 R,i+1) ⟨hy6,prai_nm _ _ _,prai_nm _ _ _,hin,by simp only; omega,by simp only; omega,by simp only; omega,z1,z2,fun y=>s1 y⟩ (by simp only; omega) qF (aA qS)
    ·have hin:i=n:=by omega
     have q4:=g4
     subst hin
     have hj:A.length+1 - D.length - i+i=A.length+1 - D.length:=by omega
     rw [hj] at g7 g8 g9
     refine fin ⟨vt,vr,T,R,hvr,rfl,?_,rfl⟩ (aA qS)
     rw [if_neg qN]
     exact ⟨rfl,hspec T R g1 g2 q4 g9,g7,g8,g5,g6⟩
theorem pRest_meets (v w:Value) (p q:Row) (k:Nat) (hp:Fit k p) (hq:Fit k q) (h1k:1≤k) (hk:re k (p.length+1)≤137438953472) (lp:p.length≤536870912) (lq:q.length≤536870912) :
  Meets Tryz.prog 165 [v,w] [(v,V p),(w,V q)] (fun r os fs=>os=[]∧∃ a b T R,(if dg (vv q)=0 then r=.tuple #[a,b,.int .i64 2]∧T=[]∧R=[] else r=.tuple #[a,b,.int .i64 0]∧nN (vv p) (vv q) T R∧szR (re k (dg (vv p)+1 - dg (vv q))) T∧szR (re k (dg (vv p)+1 - dg (vv q))) R∧T.length≤p.length∧R.length≤p.length) ∧
   fs=[(a,vd T),(b,vd R)]) :=
 (tZ v w p q k hp hq h1k hk lp lq).closed fun r os fs ⟨a,b,T,R,h1,h2,h3,h4⟩=>⟨_,_,⟨rfl,a,b,T,R,h3,rfl⟩,by
  subst h2 h4
  exact aC (dC h1) (aA qS)⟩
theorem pRestT (v w:Value) (p q:List Int) (k:Nat) (hp:szR k p) (hq:szR k q) (h1k:1≤k) (hk:re k (p.length+1)≤137438953472) (lp:p.length≤536870912) (lq:q.length≤536870912) :
  Meets Tryz.prog 165 [v,w] [(v,vd p),(w,vd q)] (fun r os fs=>os=[]∧∃ a b T R,(if dg q=0 then r=.tuple #[a,b,.int .i64 2]∧T=[]∧R=[] else r=.tuple #[a,b,.int .i64 0]∧nN p q T R∧szR (re k (dg p+1 - dg q)) T∧szR (re k (dg p+1 - dg q)) R∧T.length≤p.length∧R.length≤p.length) ∧
   fs=[(a,vd T),(b,vd R)]):=by
 have h:=pRest_meets v w (p.map cn) (q.map cn) k hp.fit hq.fit h1k (by rw [List.length_map]; exact hk) (by rw [List.length_map]; exact lp) (by rw [List.length_map]; exact lq)
 rw [fH,fH,List.length_map] at h
 exact h
theorem pRestOT (v w:Value) (p q:List Int) (k:Nat) (hp:szR k p) (hq:szR k q) (h1k:1≤k) (hk:re k (p.length+1)≤137438953472) (lp:p.length≤536870912) (lq:q.length≤536870912) :
  Meets Tryz.prog 165 [v,w] [(v,vd p),(w,vd q)] (fun r os fs=>∃ a b T R,isSl b∧os=[i8 2 J z0 b (R.map cn)]∧(if dg q=0 then r=.tuple #[a,b,.int .i64 2]∧T=[]∧R=[] else r=.tuple #[a,b,.int .i64 0]∧nN p q T R∧szR (re k (dg p+1 - dg q)) T∧szR (re k (dg p+1 - dg q)) R∧T.length≤p.length∧R.length≤p.length) ∧
   fs=[(a,vd T)]):=by
 have h:=tZ v w (p.map cn) (q.map cn) k hp.fit hq.fit h1k (by rw [List.length_map]; exact hk) (by rw [List.length_map]; exact lp) (by rw [List.length_map]; exact lq)
 rw [fH,fH,List.length_map] at h
 exact h
theorem re_one (k j:Nat):re k j+1=(k+1)*(j+1):=by
 unfold re; grind
theorem two_three (d:Nat):d+2≤2*3^d:=by
 induction d with
 | zero=>decide
 | succ d ih=>rw [Nat.pow_succ]; omega
theorem szR.pprim {k:Nat} {l:List Int} (h:szR k l):szR k (pprim l):=szR.nrm fun x hx=>by
 obtain ⟨y,hy,rfl⟩:=List.mem_map.1 hx
 exact pL (h.nrm y hy)
theorem pprim_len (l:List Int):(pprim l).length≤dg l:=Nat.le_trans (bX _) (by rw [List.length_map]; exact Nat.le_refl _)
def ge (k s d:Nat):Nat:=(k+1)*(2^s*3^d)
theorem ge_step {e k s d j δ:Nat} (h:e+1≤ge k s d) (hj:j+1≤δ+2):re e j+1≤ge k (s+1) (d+δ):=by
 rw [re_one]
 have h1:(e+1)*(j+1)≤ge k s d*(2*3^δ):=Nat.mul_le_mul h (Nat.le_trans hj (two_three δ))
 have h2:ge k s d*(2*3^δ)=ge k (s+1) (d+δ):=by
  unfold ge
  rw [Nat.pow_succ,Nat.pow_add,Nat.mul_assoc]
  congr 1
  rw [Nat.mul_assoc,Nat.mul_assoc,← Nat.mul_assoc (3^d),Nat.mul_comm (3^d) 2,Nat.mul_assoc]
 omega
theorem ge_mono {k s s' d d':Nat} (hs:s≤s') (hd:d≤d'):ge k s d≤ge k s' d' :=
 Nat.mul_le_mul_left _ (Nat.mul_le_mul (Nat.pow_le_pow_right qE hs) (Nat.pow_le_pow_right qE hd))
theorem three_two:∀ {n:Nat},1≤n→n+2≤3^n
 | 1,_=>by decide
 | n+2,_=>by
  have:=three_two (n:=n+1) qN
  rw [Nat.pow_succ]; omega
theorem ge_three (k s d j:Nat):ge k s d*3^j=ge k s (d+j):=by unfold ge; rw [Nat.pow_add]; grind
theorem ge_turn {k n:Nat} (h:1≤n):ge k n (n - 1)≤ge k (n - 1) n:=by
 obtain ⟨m,rfl⟩:∃ m,n=m+1:=⟨n - 1,by omega⟩
 rw [Nat.add_sub_cancel]
 unfold ge
 refine Nat.mul_le_mul_left _ ?_
 rw [Nat.pow_succ,Nat.pow_succ,show 2^m*2*3^m=2^m*(3^m*2) by grind]
 exact Nat.mul_le_mul_left _ (Nat.mul_le_mul_left _ qE)
theorem ge_old (k n:Nat):ge k (n - 1) n+k≤ge k n n*(n+2):=by
 have h1:ge k (n - 1) n≤ge k n n:=ge_mono qN (Nat.le_refl _)
 have h2:k+1≤ge k n n:=by
  unfold ge
  exact Nat.le_mul_of_pos_right _ (Nat.mul_pos (Nat.pow_pos qE) (Nat.pow_pos qE))
 have h3:ge k n n*2≤ge k n n*(n+2):=Nat.mul_le_mul_left _ qN
 omega
theorem pGcdN_meets (v w:Value) (p q:Row) (k n:Nat) (hp:Fit k p) (hq:Fit k q) (h1k:1≤k) (lp:p.length≤n) (lq:q.length≤n) (hn:n≤536870912) (hk:ge k (n - 1) n+k≤137438953472) :
  Meets Tryz.prog 181 [v,w] [(v,V p),(w,V q)] (fun r os fs=>os=[]∧∃ G,Nm G∧Gc G (vv p) (vv q)∧fs=[(r,vd G)]):=by
 have hge1:k+1≤ge k (n - 1) n:=by
  unfold ge
  exact Nat.le_mul_of_pos_right _ (Nat.mul_pos (Nat.pow_pos qE) (Nat.pow_pos qE))
 have hcs1:sz (cO (vv p):Nat) k:=qH hp.szR
 have hcs2:sz (cO (vv q):Nat) k:=qH hq.szR
 have sP:=hp.szR.pprim
 have sQ:=hq.szR.pprim
 have dP:dg (vv p)≤n:=Nat.le_trans (dI _) (by rw [cP]; exact lp)
 have dQ:dg (vv q)≤n:=Nat.le_trans (dI _) (by rw [cP]; exact lq)
 have eP:(pprim (vv p)).length=dg (vv p):=by rw [← eK (m6 _),dO]
 have eQ:(pprim (vv q)).length=dg (vv q):=by rw [← eK (m6 _),dO]
 have hcg:sz ((Nat.gcd (cO (vv p)) (cO (vv q)):Nat):Int) k:=by
  by_cases e:cO (vv p)=0
  ·rw [e,Nat.gcd_zero_left]; exact hcs2
  ·unfold sz at hcs1 ⊢
   rw [Int.natAbs_natCast] at hcs1 ⊢
   exact Nat.lt_of_le_of_lt (Nat.gcd_le_left _ (Nat.pos_of_ne_zero e)) hcs1
 have hgc:=fun u u'=>zGcdZ u u' _ _ k k hcs1 hcs2 qN qN
 simp only [Int.natAbs_natCast] at hgc
 refine mV Tryz.func181 ?_
 refine cG (pP v p k hp qN) fun x1=>?_
 refine cG (pP w q k hq qN) fun x2=>?_
 refine cG (hgc x1 x2) fun x3=>?_
 refine aH (d:=I false []) fun c hc=>?_
 refine aF (d:=zd (Nat.gcd (cO (vv p)) (cO (vv q)):Nat)) 0 rfl hc rfl qK ?_ ?_; exact aB qM
 refine cG (iL v p k hp qN qN) fun x4=>?_
 refine cG (iL w q k hq qN qN) fun x5=>?_
 refine aT (X:=Value×Value×List Int×List Int×Nat×Nat×Nat) (fun x=>([(5,c),(6,x.1),(7,x.2.1)],[bK c 2 1 (fun _=>zd (Nat.gcd (cO (vv p)) (cO (vv q)):Nat))],[(x.1,vd x.2.2.1),(x.2.1,vd x.2.2.2.1)]))
  (fun x=>Nm x.2.2.1∧Nm x.2.2.2.1∧x.2.2.2.1.length+x.2.2.2.2.1≤n∧x.2.2.2.2.2.1+max x.2.2.1.length x.2.2.2.1.length≤n∧szR x.2.2.2.2.2.2 x.2.2.1∧szR x.2.2.2.2.2.2 x.2.2.2.1∧1≤x.2.2.2.2.2.2∧(x.2.2.2.2.2.2+1≤ge k x.2.2.2.2.1 x.2.2.2.2.2.1∧x.2.2.2.2.2.2+1≤ge k (n - 1) n) ∧
   (0<dg x.2.2.1→cO x.2.2.1=1∧0<ld x.2.2.1)∧(0<dg x.2.2.2.1→cO x.2.2.2.1=1∧0<ld x.2.2.2.1)∧(dg x.2.2.1=0∧dg x.2.2.2.1=0→dg (vv p)=0∧dg (vv q)=0) ∧
   (∀ h,cO h=1→(Dv h x.2.2.1∧Dv h x.2.2.2.1↔Dv h (pprim (vv p))∧Dv h (pprim (vv q))))) (fun x=>x.2.2.2.1.length) rfl ?_ ?_
 ·refine aU (x4,x5,pprim (vv p),pprim (vv q),0,0,k) ⟨m6 _,m6 _,by simp only; omega,by simp only; omega,sP,sQ,h1k,⟨by simp [ge],hge1⟩,fun h=>?_,fun h=>?_,fun h=>?_,fun _ _=>Iff.rfl⟩ trivial qF (aC (bB rfl) (aA qS))
  ·simp only [dO] at h; exact ⟨fI h,o8 h⟩
  ·simp only [dO] at h; exact ⟨fI h,o8 h⟩
  ·simp only [dO] at h; exact h
 ·rintro ⟨va,vb,A,B,s,d,e⟩ ⟨g1,g2,g3,g4,g5,g6,g7,⟨g8,g8'⟩,g9,g10,g11,g12⟩
  simp only at g1 g2 g3 g4 g5 g6 g7 g8 g8' g9 g10 g11 g12 ⊢
  have hed:e+k+1≤137438953472:=by omega
  refine gH qM ?_
  refine aE _ rfl (fun hgt=>?_) (fun hgt=>?_)
  ·have hB:0<dg B:=by rw [eK g2]; omega
   have hrb:re e (A.length+1)≤137438953472:=by
    have h1:=re_one e (A.length+1)
    have h2:(e+1)*(A.length+1+1)≤ge k s d*3^(max A.length B.length):=Nat.mul_le_mul g8 (Nat.le_trans qN (three_two qN))
    rw [ge_three] at h2
    have h3:=Nat.le_trans h2 (ge_mono (k:=k) (s':=n - 1) (d':=n) qN qN)
    omega
   have hrs:=pRestT va vb A B e g5 g6 g7 hrb qN qN
   simp only [if_neg (show ¬ dg B=0 by omega)] at hrs
   refine cF hrs ?_
   rintro _ _ _ ⟨rfl,a,b,T,R,⟨rfl,hsp,hT,hR,lT,lR⟩,rfl⟩
   have hst:=ge_step (j:=dg A+1 - dg B) (δ:=dg A - dg B) g8 qN
   have hRB:dg R<dg B:=hsp.low
   have hed2:re e (dg A+1 - dg B)+1≤ge k (n - 1) n:=Nat.le_trans hst (Nat.le_trans (ge_mono (s':=n) (d':=n - 1) qN (by rw [eK g1,eK g2]; omega)) (ge_turn qN))
   have hk0:ld B^(dg A+1 - dg B)≠0:=by
    have h0:=oN hB
    have:∀ m:Nat,ld B^m≠0:=fun m=>by
     induction m with
     | zero=>rw [Int.pow_zero]; omega
     | succ m ih=>rw [Int.pow_succ]; exact Int.mul_ne_zero ih h0
    exact this _
   have hge0:e≤re e (dg A+1 - dg B):=re_ge _ _
   have lR':(pprim R).length=dg R:=by rw [← eK (m6 R),dO]
   have dA:=eK g1
   have dB:=eK g2
   refine cG (pPrimitiveT b R _ hR qN qN) fun y1=>?_
   refine aU (vb,y1,B,pprim R,s+1,d+(dg A - dg B),re e (dg A+1 - dg B)) ⟨g2,m6 _,by simp only; omega,by simp only; omega,g6.mono hge0,hR.pprim,by simp only; omega,⟨hst,hed2⟩,g10,fun h=>?_,fun h=>by simp only at h; omega,fun h hh=>?_⟩ (by simp only; omega) qF (aC (bB rfl) (aA qS))
   ·simp only [dO] at h; exact ⟨fI h,o8 h⟩
   ·rw [← g12 h hh]
    exact (gcd_step hh hk0 hsp.eq).symm
  ·have hB:dg B=0:=by rw [eK g2]; omega
   have hend:=gcd_end (p:=vv p) (q:=vv q) (a:=A) g9 (fun h=>g11 ⟨h,hB⟩) fun h hh=>by
    rw [← g12 h hh]
    exact ⟨fun k=>⟨k,Dv.zero _ (dE.1 hB)⟩,fun k=>k.1⟩
   have hra:=fun u=>m8 va u A _ 0 e k g5 hcg qN qN qN
   simp only [rD] at hra
   refine aD (d:=zd (Nat.gcd (cO (vv p)) (cO (vv q)):Nat)) 0 rfl hc rfl (aN _ _) fun y1=>?_
   refine cG (hra y1) fun r=>?_
   exact fin ⟨rfl,_,ptim_nm _ _,hend,rfl⟩ (dS (aA qS))
def syn (a:Int):List Int→List Int
 | []=>[]
 | [_]=>[]
 | _::d::l=>pev (d::l) a::syn a (d::l)
theorem syn_len (a:Int):∀ l:List Int,(syn a l).length=l.length - 1
 | []=>rfl
 | [_]=>rfl
 | _::d::l=>by
  have:=syn_len a (d::l)
  simp only [syn,List.length_cons] at this ⊢
  omega
theorem syn_ev (a x:Int):∀ l:List Int,pev l x=pev l a+(x - a)*pev (syn a l) x
 | []=>by simp [pev,syn]
 | [c]=>by simp [pev,syn]
 | c::d::l=>by
  have:=syn_ev a x (d::l)
  show c+x*pev (d::l) x=c+a*pev (d::l) a+(x - a)*(pev (d::l) a+x*pev (syn a (d::l)) x)
  rw [this]; grind
theorem syn_co (a:Int):∀ (l:List Int) (i:Nat),l.getD i 0=(if i=0 then pev l a else (syn a l).getD (i - 1) 0) - a*(syn a l).getD i 0
 | [],i=>by simp [pev,syn]
 | [c],i=>by cases i <;> simp [pev,syn]
 | c::d::l,0=>by
  show c=c+a*pev (d::l) a - a*pev (d::l) a
  omega
 | c::d::l,1=>by
  have:=syn_co a (d::l) 0
  simp only [if_true] at this
  show (d::l).getD 0 0=pev (d::l) a - a*(syn a (d::l)).getD 0 0
  exact this
 | c::d::l,i+2=>by
  have:=syn_co a (d::l) (i+1)
  rw [if_neg qN] at this
  show (d::l).getD (i+1) 0=(syn a (d::l)).getD i 0 - a*(syn a (d::l)).getD (i+1) 0
  exact this
theorem bnd:∀ (n:Nat) (P:List Int) (pts:Nat→Int) (A B:Nat),P.length≤n+1→(∀ i,i≤n→(pts i).natAbs≤A)→(∀ i j,i≤n→j≤n→i≠j→pts i≠pts j)→(∀ i,i≤n→(pev P (pts i)).natAbs≤B) →
  ∀ j,(P.getD j 0).natAbs≤B*(2*A+3)^n
 | 0,P,pts,A,B,hl,_,_,hv,j=>by
  have h0:=hv 0 (Nat.le_refl _)
  match P,hl with
  | [],_=>simp
  | [c],_ =>
   simp only [pev] at h0
   cases j with
   | zero=>simp at h0 ⊢; exact h0
   | succ j=>simp
  | _::_::_,h=>simp at h
 | n+1,P,pts,A,B,hl,hA,hi,hv,j=>by
  have ih:=bnd n (syn (pts (n+1)) P) pts A (2*B) (by rw [syn_len]; omega) (fun i h=>hA i qN) (fun i j h1 h2=>hi i j qN qN) fun i h=>by
   have h1:=syn_ev (pts (n+1)) (pts i) P
   have h2:=hv i qN
   have h3:=hv (n+1) (Nat.le_refl _)
   have h4:=hi i (n+1) qN (Nat.le_refl _) qN
   have h5:((pts i - pts (n+1))*pev (syn (pts (n+1)) P) (pts i)).natAbs≤2*B:=by
    have:(pts i - pts (n+1))*pev (syn (pts (n+1)) P) (pts i)=pev P (pts i) - pev P (pts (n+1)):=by omega
    rw [this]
    have:=Int.natAbs_sub_le (pev P (pts i)) (pev P (pts (n+1)))
    omega
   rw [Int.natAbs_mul] at h5
   have h6:1≤(pts i - pts (n+1)).natAbs:=by omega
   exact Nat.le_trans (Nat.le_mul_of_pos_left _ h6) h5
  have hp:1≤(2*A+3)^n:=Nat.pow_pos qN
  have hq:∀ m,((syn (pts (n+1)) P).getD m 0).natAbs≤2*B*(2*A+3)^n:=ih
  have h1:=syn_co (pts (n+1)) P j
  have h2:(pts (n+1)*(syn (pts (n+1)) P).getD j 0).natAbs≤A*(2*B*(2*A+3)^n):=by
   rw [Int.natAbs_mul]
   exact Nat.mul_le_mul (hA _ (Nat.le_refl _)) (hq j)
  have h3:(if j=0 then pev P (pts (n+1)) else (syn (pts (n+1)) P).getD (j - 1) 0).natAbs≤B+2*B*(2*A+3)^n:=by
   split
   ·exact Nat.le_trans (hv _ (Nat.le_refl _)) (Nat.le_add_right _ _)
   ·exact Nat.le_trans (hq _) (Nat.le_add_left _ _)
  have h4:(P.getD j 0).natAbs≤B+2*B*(2*A+3)^n+A*(2*B*(2*A+3)^n):=by
   rw [h1]
   exact Nat.le_trans (Int.natAbs_sub_le _ _) (Nat.add_le_add h3 h2)
  refine Nat.le_trans h4 ?_
  have h5:B≤B*(2*A+3)^n:=Nat.le_mul_of_pos_right _ hp
  have h6:B*(2*A+3)^(n+1)=B*(2*A+3)^n+(2*B*(2*A+3)^n+A*(2*B*(2*A+3)^n)):=by
   rw [Nat.pow_succ]; grind
  omega
theorem ev_ne {H:Nat} {x:Int} (hx:H<x.natAbs):∀ {l:List Int},(∀ i,(l.getD i 0).natAbs≤H)→pev l x=0→∀ i,l.getD i 0=0
 | [],_,_,i=>by simp
 | c::l,h,e,i=>by
  simp only [pev] at e
  have h0:c=0:=by
   have:=h 0
   simp only [List.getD_cons_zero] at this
   exact qX (x:=x) (k := - pev l x) (by rw [Int.mul_neg]; omega) qN
  have h1:pev l x=0:=by
   rw [h0] at e
   rcases Int.mul_eq_zero.1 (show x*pev l x=0 by omega) with h2 | h2
   ·omega
   ·exact h2
  cases i with
  | zero=>simpa using h0
  | succ i=>simpa using ev_ne hx (fun i=>by have:=h (i+1); simpa using this) h1 i
theorem dv_bnd {s w:List Int} {H B n:Nat} (h:Dv s w) (hw:0<dg w) (hH:∀ i,(w.getD i 0).natAbs≤H) (hs:s.length≤n+1) (hB:∀ i,i≤n→(pev w (H+1+i:Nat)).natAbs≤B) (j:Nat) :
  (s.getD j 0).natAbs≤B*(2*(H+1+n)+3)^n:=by
 refine bnd n s (fun i=>((H+1+i:Nat):Int)) (H+1+n) B hs (fun i hi=>by simp only [Int.natAbs_natCast]; omega) (fun i j _ _ hne he=>hne qN) (fun i hi=>?_) j
 obtain ⟨u,hu⟩:=h
 have h1:=hB i hi
 have h2:pev w (H+1+i:Nat)≠0:=fun e=>by
  have:=ev_ne (H:=H) (x:=((H+1+i:Nat):Int)) (by rw [Int.natAbs_natCast]; omega) hH e
  have:dg w≤0:=jU.2 fun i _=>this i
  omega
 rw [hu,Int.natAbs_mul] at h1
 have h3:1≤(pev u (H+1+i:Nat)).natAbs:=by
  rw [hu] at h2
  have:pev u (H+1+i:Nat)≠0:=fun e=>h2 (by rw [e]; simp)
  omega
 exact Nat.le_trans (Nat.le_mul_of_pos_right _ h3) h1
def dvk (k N:Nat):Nat:=k+2*(N*(k+2))+1
theorem dv_szR {s w:List Int} {k N:Nat} (h:Dv s w) (hw:0<dg w) (hk:szR k w) (ns:Nm s) (hN:dg w≤N) (h32:N≤4294967296):szR (dvk k N) s:=by
 have hs0:=h.deg hw
 have hls:s.length=dg s:=(eK ns).symm
 have hP:0<18446744073709551616^k:=Nat.pow_pos qE
 have hP1:18446744073709551616^(k+1)=18446744073709551616^k*18446744073709551616:=Nat.pow_succ _ _
 have hP2:18446744073709551616^(k+2)=18446744073709551616^k*18446744073709551616*18446744073709551616:=by rw [Nat.pow_succ,hP1]
 have hB:∀ i,i≤N→(pev w (18446744073709551616^k+1+i:Nat)).natAbs≤18446744073709551616^(k+N*(k+2)):=fun i hi=>by
  have hx:sz ((18446744073709551616^k+1+i:Nat):Int) (k+1):=by
   unfold sz
   rw [Int.natAbs_natCast,hP1]
   omega
  have h1:=xI hk.nrm hx
  rw [dL] at h1
  have h2:k+(nrm w).length*(k+1+1)≤k+N*(k+2):=Nat.add_le_add_left (Nat.mul_le_mul_right _ hN) _
  exact Nat.le_of_lt (h1.mono h2)
 have hb:=dv_bnd (n:=dg s - 1) h hw (fun i=>Nat.le_of_lt (hk.get i)) qN fun i hi=>hB i qN
 intro x hx
 obtain ⟨j,hj,rfl⟩:=List.mem_iff_getElem.1 hx
 have h1:=hb j
 rw [gE,List.getElem?_eq_getElem hj] at h1
 have h2:2*(18446744073709551616^k+1+(dg s - 1))+3≤18446744073709551616^(k+2):=by
  rw [hP2]; omega
 have h3:(2*(18446744073709551616^k+1+(dg s - 1))+3)^(dg s - 1)≤18446744073709551616^(N*(k+2)):=by
  refine Nat.le_trans (Nat.pow_le_pow_left h2 _) ?_
  rw [← Nat.pow_mul]
  refine Nat.pow_le_pow_right qE ?_
  rw [Nat.mul_comm]
  exact Nat.mul_le_mul_right _ qN
 unfold sz
 have h4:18446744073709551616^(k+N*(k+2))*18446744073709551616^(N*(k+2))=18446744073709551616^(k+2*(N*(k+2))):=by
  rw [← Nat.pow_add]; congr 1; omega
 have h5:(s[j]).natAbs≤18446744073709551616^(k+2*(N*(k+2))):=by
  rw [← h4]
  exact Nat.le_trans h1 (Nat.mul_le_mul (Nat.le_refl _) h3)
 refine Nat.lt_of_le_of_lt h5 ?_
 unfold dvk
 exact Nat.pow_lt_pow_right qE qN
theorem div_dg {R D:List Int} {c:Int} (hD:0<dg D) (hR:dg D≤dg R) (hc:c*ld D=ld R):dg (psub R (prai c (dg R - dg D) D))<dg R:=by
 have:dg (psub R (prai c (dg R - dg D) D))≤dg R - 1:=jU.2 fun i hi=>by
  rw [co_psub,tL,if_neg qN]
  by_cases h:i=dg R - 1
  ·rw [h,show dg R - 1 - (dg R - dg D)=dg D - 1 by omega]
   show ld R - c*ld D=0
   omega
  ·rw [jU.1 (Nat.le_refl (dg R)) i qN,jU.1 (Nat.le_refl (dg D)) (i - (dg R - dg D)) qN]; simp
 omega
structure oZ (p q t:List Int) (e:Int):Prop where
 tn:Nm t
 zero:dg q=0→e=2∧t=[]
 ok:0<dg q→Dv q p→e=0∧∀ x,pev p x=pev q x*pev t x
 no:0<dg q→¬ Dv q p→e=11∧t=[]
def put (f:Nat→Int) (s:Nat) (c:Int):Nat→Int:=fun y=>if y=s then c else f y
theorem ev_put {N s:Nat} {f:Nat→Int} (hs:s<N) (h0:f s=0) (c x:Int):pev (lst N (put f s c)) x=pev (lst N f) x+c*x^s:=by
 have e:∀ y,put f s c y=f y+(if s≤y then c*[1].getD (y - s) 0 else 0):=fun y=>by
  unfold put
  by_cases h:y=s
  ·subst h
   rw [if_pos rfl,if_pos (Nat.le_refl _),Nat.sub_self,h0]; simp
  ·rw [if_neg h]
   split
   ·rw [fM (l:=[1]) (by simp; omega)]; simp
   ·simp
 have e2:lst N (put f s c)=lst N fun y=>f y+(if s≤y then c*[1].getD (y - s) 0 else 0):=oM fun y _=>e y
 rw [e2,mY,ev_shifted [1] s N (by simp; omega)]
 simp [pev]
theorem div_step {P D R:List Int} {f:Nat→Int} {N:Nat} {c:Int} (hs:R.length - D.length<N) (h0:f (R.length - D.length)=0) (e:∀ x,pev P x=pev D x*pev (lst N f) x+pev R x) :
  ∀ x,pev P x=pev D x*pev (lst N (put f (R.length - D.length) c)) x+pev (psub R (prai c (R.length - D.length) D)) x:=fun x=>by
 rw [ev_put hs h0,iF,jQ,e]; grind
theorem div_no {P D R T:List Int} (e:∀ x,pev P x=pev D x*pev T x+pev R x) (h:Dv D P):Dv D R :=
 h.sub (c:=pmul D T) ⟨T,fun x=>bM _ _ _⟩ fun x=>by rw [e,bM]; omega
theorem ld_dvd {D R:List Int} (h:Dv D R) (hR:0<dg R):ld D ∣ ld R:=by
 obtain ⟨u,hu⟩:=h
 have hd:=(show Dv D R from ⟨u,hu⟩).deg hR
 have hu0:0<dg u:=pV fun e=>by
  have:=(dE (l:=R)).2 fun x=>by rw [hu,e]; simp
  omega
 exact ⟨ld u,(rK hu hd.1 hu0).2⟩
theorem pDivideO_meets (v w:Value) (p q:Row) (k l:Nat) (hp:Fit k p) (hq:Fit l q) (hk:k+(p.length+1)*(l+1)≤137438953472) (lp:p.length≤536870912) (lq:q.length≤536870912) :
  Meets Tryz.prog 80 [v,w] [(v,V p),(w,V q)] (fun r os fs=>∃ a t e,r=.tuple #[a,.int .i64 e]∧oZ (vv p) (vv q) t e∧isSl a∧szR (k+(p.length+1)*(l+1)) t∧os=[i8 2 J z0 a (t.map cn)]∧fs=[]):=by
 have hm1:(p.length+1)*(l+1)=p.length*(l+1)+(l+1):=Nat.succ_mul _ _
 have n1:=fR v p (hp.mono qN) qN
 have n2:=fR w q (hq.mono qN) qN
 have sP:=hp.szR.nrm
 have sD:=hq.szR.nrm
 have la:(nrm (vv p)).length≤p.length:=Nat.le_trans (bX _) (by rw [cP]; exact Nat.le_refl _)
 have lb:(nrm (vv q)).length≤q.length:=Nat.le_trans (bX _) (by rw [cP]; exact Nat.le_refl _)
 have hPn:Nm (nrm (vv p)):=iE _
 have hDn:Nm (nrm (vv q)):=iE _
 have hdq:dg (vv q)=(nrm (vv q)).length:=rfl
 have hdv:Dv (vv q) (vv p)→Dv (nrm (vv q)) (nrm (vv p)):=fun h=>h.ext (fun x=>(dL _ x).symm) fun x=>(dL _ x).symm
 have hbad:0<(nrm (vv q)).length→¬ Dv (nrm (vv q)) (nrm (vv p))→oZ (vv p) (vv q) [] 11:=fun h0 hn=>⟨rfl,fun h=>by omega,fun _ h=>(hn (hdv h)).elim,fun _ _=>⟨rfl,rfl⟩⟩
 have hgood:∀ T,(0<(nrm (vv q)).length)→(∀ x,pev (nrm (vv p)) x=pev (nrm (vv q)) x*pev T x)→oZ (vv p) (vv q) (nrm T) 0:=fun T h0 hn=>⟨iE _,fun h=>by omega,fun _ _=>⟨rfl,fun x=>by rw [dL,← dL (vv p),← dL (vv q)]; exact hn x⟩,fun _ h=>(h ⟨T,fun x=>by rw [← dL (vv p),← dL (vv q)]; exact hn x⟩).elim⟩
 have hzero:(nrm (vv q)).length=0→oZ (vv p) (vv q) [] 2:=fun h0=>⟨rfl,fun _=>⟨rfl,rfl⟩,fun h=>by omega,fun h=>by omega⟩
 generalize hA:nrm (vv p)=A at *
 generalize hB:nrm (vv q)=D at *
 generalize hE:k+(p.length+1)*(l+1)=E at *
 refine mV Tryz.func80 ?_
 refine cG n1 fun x1=>?_
 refine cG n2 fun x2=>?_
 refine gH qM ?_
 refine aE _ rfl (fun hz=>?_) (fun hz=>?_)
 ·exact fin ⟨_,[],2,rfl,hzero qN,⟨_,_,_,rfl⟩,fun x hx=>by simp at hx,rfl,rfl⟩ (aC (aL _ _) (cK _ _ 2 _))
 have hD0:0<D.length:=by omega
 have dD:=eK hDn
 have hldD:ld D≠0:=oN qN
 refine gH qM ?_
 refine gH qM ?_
 refine ar rfl qI ?_
 refine ar rfl qI ?_
 refine gS ?_
 refine fB (t:=23) (d:=I false []) (A.length+1 - D.length) qN qN qN qN fun u hu=>?_
 generalize hN:A.length+1 - D.length=N
 refine aT (X:=Value×List Int×(Nat→Int)×Nat) (fun x=>([(6,x.1),(7,x2),(8,u)],[bK u 2 N (fun y=>zd (x.2.2.1 y))],[(x2,vd D),(x.1,vd x.2.1)]))
  (fun x=>Nm x.2.1∧x.2.1.length+x.2.2.2≤A.length∧szR (k+x.2.2.2*(l+1)) x.2.1∧(∀ y,sz (x.2.2.1 y) E)∧(∀ y,y+D.length≤x.2.1.length→x.2.2.1 y=0)∧∀ x',pev A x'=pev D x'*pev (lst N x.2.2.1) x'+pev x.2.1 x') (fun x=>x.2.1.length) rfl ?_ ?_
 ·refine aU (x1,A,fun _=>0,0) ⟨hPn,by simp only; omega,by simp only [Nat.zero_mul,Nat.add_zero]; exact sP,fun _=>lH _,fun _ _=>rfl,fun x=>by simp only [qC]; omega⟩ trivial qF (aC (Seals.own_cong (os:=[_]) 0 (fun _=>zd 0) rfl rfl fun y _=>vF) (aA qS))
 ·rintro ⟨vr,R,f,j⟩ ⟨g1,g2,g3,g4,g5,g6⟩
  simp only at g1 g2 g3 g4 g5 g6 ⊢
  have dR:=eK g1
  refine gH qM ?_
  refine gH qM ?_
  refine aE _ rfl (fun hge=>?_) (fun hge=>?_)
  ·have hge':D.length≤R.length:=by omega
   have hsN:R.length - D.length<N:=by omega
   have hj1:(j+1)*(l+1)≤(p.length+1)*(l+1):=Nat.mul_le_mul_right _ qN
   have hj2:(j+1)*(l+1)=j*(l+1)+(l+1):=Nat.succ_mul _ _
   have hlR:sz (ld R) (k+j*(l+1)):=g3.get _
   have hlD:sz (ld D) l:=sD.get _
   have hlc:sz (ld R/ld D) (k+j*(l+1)):=pL hlR
   have hlm:sz (ld R%ld D) l:=by
    have h1:=Int.emod_nonneg (ld R) hldD
    have h2:=Int.emod_lt (ld R) hldD
    unfold sz at hlD ⊢
    omega
   have hst:=div_step (c:=ld R/ld D) hsN (g5 _ qN) g6
   have c5:=fun u' u''=>m8 u' u'' D (ld R/ld D) (R.length - D.length) l _ sD hlc qN qN qN
   have s5:szR (k+j*(l+1)+l) (prai (ld R/ld D) (R.length - D.length) D):=by
    have:=sD.prai hlc (R.length - D.length)
    rwa [Nat.add_comm] at this
   have c6:=fun u' u''=>pSubT u' u'' R (prai (ld R/ld D) (R.length - D.length) D) _ (g3.mono (Nat.le_add_right _ l)) s5 qN qN (by have:=jF (ld R/ld D) (R.length - D.length) D; omega)
   have z6:szR (k+(j+1)*(l+1)) (psub R (prai (ld R/ld D) (R.length - D.length) D)):=((g3.mono (Nat.le_add_right _ l)).psub s5).mono qN
   have hnd:ld R%ld D≠0→¬ Dv D A:=fun h hd=>h (Int.emod_eq_zero_of_dvd (ld_dvd (div_no g6 hd) qN))
   have hdg:ld R%ld D=0→(psub R (prai (ld R/ld D) (R.length - D.length) D)).length<R.length:=fun h=>by
    have:=div_dg (R:=R) (D:=D) (c:=ld R/ld D) qN qN (Int.ediv_mul_cancel (Int.dvd_of_emod_eq_zero h))
    rw [dR,dD,eK (vY _ _)] at this
    exact this
   have hrn:Nm (psub R (prai (ld R/ld D) (R.length - D.length) D)):=vY _ _
   have hpf:∀ y,sz (put f (R.length - D.length) (ld R/ld D) y) E:=fun y=>by
    unfold put; split
    ·exact hlc.mono qN
    ·exact g4 y
   have hup:∀ y,upd (fun y=>zd (f y)) (R.length - D.length) (zd (ld R/ld D)) y=zd (put f (R.length - D.length) (ld R/ld D) y):=fun y =>
    upd_zd (G:=f) (H:=put f (R.length - D.length) (ld R/ld D)) (by unfold put; rw [if_pos rfl]) (fun y hy=>by unfold put; rw [if_neg hy]) y
   have hcast:((R.length - D.length:Nat):Int)=(R.length:Int) - (D.length:Int):=by omega
   have hput:∀ y,y<R.length - D.length→put f (R.length - D.length) (ld R/ld D) y=f y:=fun y hy=>by unfold put; rw [if_neg qN]
   generalize hR':psub R (prai (ld R/ld D) (R.length - D.length) D)=R' at *
   generalize hf':put f (R.length - D.length) (ld R/ld D)=f' at *
   refine gH qM ?_
   refine gH qM ?_
   refine ar rfl qI ?_
   refine cG (pLeadN vr R g1 qN) fun y1=>?_
   refine cG (pLeadN x2 D hDn hD0) fun y2=>?_
   refine cF (gZ y1 y2 _ _ _ _ hlR hlD qN qN hldD) ?_
   rintro _ _ _ ⟨rfl,y3,y4,rfl,rfl⟩
   refine aH (d:=I false []) fun c hc=>?_
   refine aH (d:=I false []) fun m hm=>?_
   refine aF (d:=zd (ld R/ld D)) 1 rfl hc rfl qK ?_ ?_; exact aB qM
   refine aF (d:=zd (ld R%ld D)) 0 rfl hm rfl qK ?_ ?_; exact aB qM
   refine aD (d:=zd (ld R%ld D)) 0 rfl hm rfl (aN _ _) fun y5=>?_
   refine cH (zSignZ y5 _ _ hlm qN) ?_
   refine aE _ rfl (fun hne=>?_) (fun hne=>?_)
   ·have h11:=hbad hD0 (hnd fun h=>hne (by rw [h]; rfl))
    exact fin ⟨_,[],11,rfl,h11,⟨_,_,_,rfl⟩,fun x hx=>by simp at hx,rfl,rfl⟩ (dS (dS (dS (aC (aL _ _) (cK _ _ 2 _)))))
   ·have h0:ld R%ld D=0:=Int.sign_eq_zero_iff_zero.1 qN
    have hlen:=hdg h0
    refine aD (d:=zd (ld R/ld D)) 1 rfl hc rfl (aN _ _) fun y6=>?_
    refine aI 2 rfl hu (R.length - D.length) qN hsN ?_
    refine c9 (bP (d:=zd (ld R/ld D)) 2 rfl (R.length - D.length) hsN rfl qK (aB qM) ⟨_,_,Seals.own_cong (os:=[_,_,_]) 2 (fun y=>zd (f' y)) rfl rfl (fun y _=>hup y),?_⟩)
    refine aD (d:=zd (ld R/ld D)) 1 rfl hc rfl (aN _ _) fun y7=>?_
    have c5':=c5 x2 y7
    rw [hcast] at c5'
    refine cG c5' fun y8=>?_
    refine cG (c6 vr y8) fun y9=>?_
    refine aU (y9,R',f',j+1) ⟨hrn,by simp only; omega,z6,hpf,fun y hy=>?_,hst⟩ (by simp only; omega) qF (dS (dS (aA qS)))
    simp only at hy ⊢
    rw [hput y qN]
    exact g5 y qN
  ·refine gH qM ?_
   refine aE _ rfl (fun hp0=>?_) (fun hp0=>?_)
   ·have h11:=hbad hD0 fun hd=>by
     have:=(div_no g6 hd).deg qN
     omega
    exact fin ⟨_,[],11,rfl,h11,⟨_,_,_,rfl⟩,fun x hx=>by simp at hx,rfl,rfl⟩ (dS (aC (aL _ _) (cK _ _ 2 _)))
   ·have hR0:R=[]:=List.length_eq_zero_iff.1 qN
    have hok:=hgood (lst N f) hD0 fun x=>by
     have:=g6 x
     rw [hR0] at this
     simp only [pev] at this; omega
    have hsl:szR E (lst N f):=szR.lst fun y _=>g4 y
    have hn:=kI u ((lst N f).map cn) (hsl.mono hk).fit (by rw [List.length_map,dF]; omega)
    rw [fH] at hn
    refine c8 hn (Seals.told (g:=f) hu fun y _=>rfl) qS ?_
    rintro r _ _ ⟨hr,rfl,rfl⟩
    exact fin ⟨r,_,0,rfl,hok,hr,hsl.nrm,rfl,rfl⟩ (aA qS)
theorem pDivide_meets (v w:Value) (p q:Row) (k l:Nat) (hp:Fit k p) (hq:Fit l q) (hk:k+(p.length+1)*(l+1)≤137438953472) (lp:p.length≤536870912) (lq:q.length≤536870912) :
  Meets Tryz.prog 80 [v,w] [(v,V p),(w,V q)] (fun r os fs=>os=[]∧∃ a t e,r=.tuple #[a,.int .i64 e]∧oZ (vv p) (vv q) t e∧szR (k+(p.length+1)*(l+1)) t∧fs=[(a,vd t)]) :=
 (pDivideO_meets v w p q k l hp hq hk lp lq).closed fun r os fs ⟨a,t,e,h1,h2,h3,h4,h5,h6⟩=>by
  subst h5 h6
  exact ⟨[],[(a,vd t)],⟨rfl,a,t,e,h1,h2,h4,rfl⟩,dC h3⟩
theorem pDivideT (v w:Value) (p q:List Int) (k l:Nat) (hp:szR k p) (hq:szR l q) (hk:k+(p.length+1)*(l+1)≤137438953472) (lp:p.length≤536870912) (lq:q.length≤536870912) :
  Meets Tryz.prog 80 [v,w] [(v,vd p),(w,vd q)] (fun r os fs=>os=[]∧∃ a t e,r=.tuple #[a,.int .i64 e]∧oZ p q t e∧szR (k+(p.length+1)*(l+1)) t∧fs=[(a,vd t)]):=by
 have h:=pDivide_meets v w (p.map cn) (q.map cn) k l hp.fit hq.fit (by rw [List.length_map]; exact hk) (by rw [List.length_map]; exact lp) (by rw [List.length_map]; exact lq)
 rw [fH,fH,List.length_map] at h
 exact h
theorem pA (n:Nat) (f:Nat→Int):lst (n+1) f=lst n f++[f n]:=by
 simp [lst,List.range_succ]
theorem sz_nat {i:Nat} (h:i<18446744073709551616):sz (i:Int) 1:=by
 unfold sz; rw [Int.natAbs_natCast]; omega
theorem pDerive_meets (v:Value) (p:Row) (k:Nat) (hp:Fit k p) (hk:k+1≤137438953472) (lp:p.length≤536870912) :
  Meets Tryz.prog 164 [v] [(v,V p)] (fun r os fs=>os=[]∧fs=[(r,vd (pder (vv p)))]):=by
 have n1:=fR v p (hp.mono qN) qN
 have sP:=hp.szR.nrm
 have la:(nrm (vv p)).length≤p.length:=Nat.le_trans (bX _) (by rw [cP]; exact Nat.le_refl _)
 have hpd:pder (vv p)=pder (nrm (vv p)):=(pder_nm _).ext (pder_nm _) (rG fun x=>(dL _ x).symm)
 rw [hpd]
 generalize hA:nrm (vv p)=A at *
 have hg:∀ i,sz (((i+1:Nat):Int)*A.getD (i+1) 0) (1+k)∨18446744073709551615≤i:=fun i=>by
  by_cases h:i+1<18446744073709551616
  ·exact .inl ((sz_nat h).mul (sP.get _))
  ·exact .inr qN
 have hszL:szR (k+1) (lst (A.length - 1) fun i=>((i+1:Nat):Int)*A.getD (i+1) 0):=szR.lst fun i hi=>by
  rcases hg i with h | h
  ·rw [Nat.add_comm 1 k] at h; exact h
  ·omega
 have hdef:pder A=nrm (lst (A.length - 1) fun i=>((i+1:Nat):Int)*A.getD (i+1) 0):=rfl
 rw [hdef]
 generalize hG:(fun i=>((i+1:Nat):Int)*A.getD (i+1) 0)=g at *
 have hgi:∀ i:Nat,1≤i→(i:Int)*A.getD i 0=g (i - 1):=fun i hi=>by
  rw [← hG]
  show _=((i - 1+1:Nat):Int)*A.getD (i - 1+1) 0
  rw [Nat.sub_add_cancel hi]
 refine mV Tryz.func164 ?_
 refine cG n1 fun x1=>?_
 refine aT (X:=Value×Nat) (fun x=>([(3,x1),(4,x.1),(5,.int .i64 (x.2:Nat))],[i8 2 J z0 x.1 ((lst (x.2 - 1) g).map cn)],[(x1,vd A)])) (fun x=>isSl x.1∧1≤x.2∧(x.2≤A.length∨x.2=1)) (fun x=>A.length - x.2) rfl ?_ ?_
 ·exact aU (.slice none 0 0,1) ⟨⟨_,_,_,rfl⟩,Nat.le_refl _,.inr rfl⟩ trivial qF (aC (cK _ _ 2 _) (aA qS))
 ·rintro ⟨vo,i⟩ ⟨hvo,h1,h2⟩
  simp only at hvo h1 h2 ⊢
  refine gH qM ?_
  refine aE _ rfl (fun hlt=>?_) (fun hlt=>?_)
  ·have hin:i<A.length:=by omega
   have hai:=sP.get i
   have hsi:=sz_nat (i:=i) qN
   have hgi':=hgi i h1
   have hmul:=fun u u'=>iP u u' (i:Int) (A.getD i 0) _ _ hsi hai qN qN
   rw [hgi'] at hmul
   have hl:lst (i - 1) g++[g (i - 1)]=lst (i+1 - 1) g:=by
    rw [← pA]; congr 1; omega
   have hll:(lst (i - 1) g).length=i - 1:=dF _ _
   refine a0 [0,1,3,4,5,6,2,7,8,9,10] [0,1,2,3,4,5,6,7,8,9,10] qK qK ?_
   refine vB qM i rfl hin fun b1=>?_
   refine aM (d:=zd (A.getD i 0)) qM (aN _ _) fun y1=>?_
   refine cG (dW (i:Int) qN qN) fun y2=>?_
   refine cG (hmul y2 y1) fun y3=>?_
   refine jN (size:=2) (f:=J) (z:=z0) (e:=26) (cn (g (i - 1))) qE (aB qM) rfl fun y4=>?_
   refine eC (size:=2) (e:=26) (f:=J) (z:=z0) (l:=(lst (i - 1) g).map cn) (m:=[cn (g (i - 1))]) 0 rfl hvo (a9 qM) (by simp only [List.length_map,hll,List.length_cons,List.length_nil]; omega) (by simp only [List.length_map,hll,List.length_cons,List.length_nil]; omega) fun vn hvn=>?_
   refine ar rfl qI ?_
   refine aU (vn,i+1) ⟨hvn,by simp only; omega,.inl (by simp only; omega)⟩ (by simp only; omega) qF ?_
   rw [show (lst (i - 1) g).map cn++[cn (g (i - 1))]=(lst (i+1 - 1) g).map cn by rw [← hl,List.map_append]; rfl]
   exact aA qS
  ·have hii:lst (i - 1) g=lst (A.length - 1) g:=by congr 1; omega
   rw [hii]
   refine c8 (pNormT vo (lst (A.length - 1) g) (hszL.mono qN) (by rw [dF]; omega)) (dC hvo) qS ?_
   rintro r _ _ ⟨rfl,rfl⟩
   exact fin ⟨rfl,rfl⟩ (aA qS)
theorem pDeriveT (v:Value) (p:List Int) (k:Nat) (hp:szR k p) (hk:k+1≤137438953472) (lp:p.length≤536870912) :
  Meets Tryz.prog 164 [v] [(v,vd p)] (fun r os fs=>os=[]∧fs=[(r,vd (pder p))]):=by
 have h:=pDerive_meets v (p.map cn) k hp.fit hk (by rw [List.length_map]; exact lp)
 rw [fH] at h
 exact h
theorem mA {c:Int} {a:Nat} (h:sz c a):∀ n:Nat,sz (c^n) (n*a+1)
 | 0=>by rw [Int.pow_zero,Nat.zero_mul]; exact kH 1 qE
 | n+1=>by
  rw [Int.pow_succ]
  have:=(mA h n).mul h
  refine this.mono ?_
  rw [Nat.succ_mul]; omega
theorem pGcdNT (v w:Value) (p q:List Int) (k n:Nat) (hp:szR k p) (hq:szR k q) (h1k:1≤k) (lp:p.length≤n) (lq:q.length≤n) (hn:n≤536870912) (hk:ge k (n - 1) n+k≤137438953472) :
  Meets Tryz.prog 181 [v,w] [(v,vd p),(w,vd q)] (fun r os fs=>os=[]∧∃ G,Nm G∧Gc G p q∧fs=[(r,vd G)]):=by
 have h:=pGcdN_meets v w (p.map cn) (q.map cn) k n hp.fit hq.fit h1k (by rw [List.length_map]; exact lp) (by rw [List.length_map]; exact lq) hn hk
 rw [fH,fH] at h
 exact h
structure nM (p s:List Int):Prop where
 sn:Nm s
 zero:dg p=0→s=[]
 ok:0<dg p→∃ g,Gc g (pprim p) (pder (pprim p))∧∀ x,pev (pprim p) x=pev g x*pev s x
theorem szR.pder {k:Nat} {l:List Int} (h:szR k l) (hl:l.length≤4294967296):szR (k+1) (pder l):=szR.nrm (szR.lst fun i hi=>by
 have:=(sz_nat (i:=i+1) qN).mul (h.get (i+1))
 rw [Nat.add_comm 1 k] at this; exact this)
theorem pder_len (l:List Int):(pder l).length≤l.length:=Nat.le_trans (bX _) (by rw [dF]; omega)
theorem pSimpleN_meets (v:Value) (p:Row) (k n:Nat) (hp:Fit k p) (lp:p.length≤n) (hn:n≤268435456) (hk:ge (k+1) (n - 1) n+(k+1)≤137438953472) (hd:k+(n+1)*(dvk (k+1) n+1)≤137438953472) :
  Meets Tryz.prog 163 [v] [(v,V p)] (fun r os fs=>os=[]∧∃ s,nM (vv p) s∧szR (dvk k n) s∧fs=[(r,vd s)]):=by
 have hge:k+2≤ge (k+1) (n - 1) n:=by
  unfold ge
  exact Nat.le_mul_of_pos_right _ (Nat.mul_pos (Nat.pow_pos qE) (Nat.pow_pos qE))
 have h1:=iL v p k hp qN qN
 have sU:=hp.szR.pprim
 have lU:(pprim (vv p)).length≤n:=Nat.le_trans (pprim_len _) (Nat.le_trans (dI _) (by rw [cP]; exact lp))
 have nU:=m6 (vv p)
 have dU:=dO (vv p)
 have hspec:∀ s g,Nm s→0<dg (vv p)→Gc g (pprim (vv p)) (pder (pprim (vv p)))→(∀ x,pev (pprim (vv p)) x=pev g x*pev s x)→nM (vv p) s:=fun s g a1 a2 a3 a4=>⟨a1,fun h=>by omega,fun _=>⟨g,a3,a4⟩⟩
 have hzero:dg (vv p)=0→nM (vv p) []:=fun h=>⟨rfl,fun _=>rfl,fun h'=>by omega⟩
 rw [eK nU] at dU
 generalize hU:pprim (vv p)=u at *
 have sD:=sU.pder qN
 have lD:=pder_len u
 refine mV Tryz.func163 ?_
 refine cG h1 fun x1=>?_
 refine gH qM ?_
 refine aE _ rfl (fun hz=>?_) (fun hz=>?_)
 ·exact fin ⟨rfl,[],hzero qN,fun x hx=>by simp at hx,rfl⟩ (bA (dN 2 _) (aL _ _))
 ·have hu0:0<dg u:=by rw [eK nU]; omega
  refine cG (pDeriveT x1 u k sU qN qN) fun x2=>?_
  refine cF (pGcdNT x1 x2 u (pder u) (k+1) n (sU.mono qN) sD qN lU qN qN hk) ?_
  rintro x3 _ _ ⟨rfl,G,nG,gG,rfl⟩
  have hGd:=gG.1.deg hu0
  have sG:szR (dvk (k+1) n) G:=dv_szR gG.1 hu0 (sU.mono qN) nG (by rw [eK nU]; exact lU) qN
  have lG:G.length≤n:=by rw [← eK nG]; rw [eK nU] at hGd; omega
  have hdd:k+(u.length+1)*(dvk (k+1) n+1)≤137438953472:=by
   have:(u.length+1)*(dvk (k+1) n+1)≤(n+1)*(dvk (k+1) n+1):=Nat.mul_le_mul_right _ qN
   omega
  refine cF (pDivideT x1 x3 u G k _ sU sG hdd qN qN) ?_
  rintro _ _ _ ⟨rfl,a,t,e,rfl,hsp,_,rfl⟩
  obtain ⟨_,ht⟩:=hsp.ok hGd.1 gG.1
  have hs:=hspec t G hsp.tn qN gG ht
  have st:szR (dvk k n) t:=dv_szR ⟨G,fun x=>by rw [ht,Int.mul_comm]⟩ hu0 sU hsp.tn (by rw [eK nU]; exact lU) qN
  exact fin ⟨rfl,t,hs,st,rfl⟩ (aA qS)
def chF (ls:List (List Int)) (nx:List Int) (i:Nat):List Int:=(ls++[nx]).getD i []
structure CH (s:List Int) (ls:List (List Int)) (nx:List Int):Prop where
 len:1≤ls.length
 hd:chF ls nx 0=s
 nm:∀ i,i≤ls.length→Nm (chF ls nx i)
 one:chF ls nx 1=pder s
 pos:∀ i,i<ls.length→chF ls nx i≠[]
 low:∀ i,i<ls.length→(chF ls nx (i+1)).length<(chF ls nx i).length
 rel:∀ i,i+1<ls.length→∃ α β q,0<α∧0<β∧∀ x,α*pev (chF ls nx i) x=pev q x*pev (chF ls nx (i+1)) x - β*pev (chF ls nx (i+2)) x
theorem chF_lt {ls:List (List Int)} {nx:List Int} {i:Nat} (h:i<ls.length):chF ls nx i=ls.getD i []:=by
 unfold chF
 rw [gE,List.getElem?_append_left h,← gE]
theorem nI (ls:List (List Int)) (nx:List Int):chF ls nx ls.length=nx:=by
 unfold chF
 rw [gE,List.getElem?_append_right (Nat.le_refl _),Nat.sub_self]; rfl
theorem chF_snoc {ls:List (List Int)} {nx ny:List Int} {i:Nat} (h:i≤ls.length):chF (ls++[nx]) ny i=chF ls nx i:=by
 rw [chF_lt (by simp; omega)]; rfl
def nxt (a b R:List Int):List Int:=if (dg a+1 - dg b)%2=0∨0<ld b then ptim (-1) R else R
def redc (l:List Int):List Int:=l.map fun y=>y/(cO l:Int)
theorem redc_ev (l:List Int) (x:Int):pev l x=(cO l:Int)*pev (redc l) x:=by
 have h:∀ i,l.getD i 0=((redc l).map fun y=>(cO l:Int)*y).getD i 0:=fun i=>by
  rw [uH]
  unfold redc
  have hd:=gL.1 (Nat.dvd_refl (cO l)) i
  by_cases hi:i<l.length
  ·have e:(l.map fun y=>y/(cO l:Int)).getD i 0=l.getD i 0/(cO l:Int):=by simp [gE,hi]
   rw [e,Int.mul_ediv_cancel' hd]
  ·have e1:l.getD i 0=0:=by rw [gE,List.getElem?_eq_none qN]; rfl
   have e2:(l.map fun y=>y/(cO l:Int)).getD i 0=0:=by rw [gE,List.getElem?_eq_none (by rw [List.length_map]; omega)]; rfl
   rw [e1,e2,Int.mul_zero]
 rw [ev_co h,eM]
theorem kB (l:List Int):(redc l).length=l.length:=by unfold redc; simp
theorem nm_last {l:List Int}:Nm l↔(l≠[]→l.getD (l.length - 1) 0≠0):=by
 constructor
 ·intro h h0 e
  have h1:0<dg l:=by rw [eK h]; exact List.length_pos_iff.2 h0
  have h2:=oN h1
  unfold ld at h2
  rw [eK h] at h2
  exact h2 e
 ·intro h
  by_cases h0:l=[]
  ·rw [h0]; rfl
  ·have h1:l.length≤dg l:=Nat.le_of_not_lt fun hlt=>by
    have hpos:=List.length_pos_iff.2 h0
    exact h h0 (jU.1 (show dg l≤l.length - 1 by omega) _ (Nat.le_refl _))
   have h2:=dI l
   show nrm l=l
   refine List.ext_getElem? fun i=>?_
   have hl:(nrm l).length=l.length:=by have:dg l=(nrm l).length:=rfl; omega
   by_cases hi:i<l.length
   ·have:=gM l i
    rw [gE,gE,List.getElem?_eq_getElem hi,List.getElem?_eq_getElem qN] at this
    rw [List.getElem?_eq_getElem hi,List.getElem?_eq_getElem qN]
    simpa using this
   ·rw [List.getElem?_eq_none qN,List.getElem?_eq_none qN]
theorem redc_nm {l:List Int} (h:Nm l):Nm (redc l):=by
 refine nm_last.2 fun h0 e=>?_
 have h1:l≠[]:=fun e=>h0 (by rw [e]; rfl)
 have h2:=nm_last.1 h h1
 have hpos:=List.length_pos_iff.2 h1
 have e1:(redc l).getD ((redc l).length - 1) 0=l.getD (l.length - 1) 0/(cO l:Int):=by
  rw [kB]
  unfold redc
  simp [gE,show l.length - 1<l.length by omega]
 rw [e1] at e
 have hd:=gL.1 (Nat.dvd_refl (cO l)) (l.length - 1)
 have:=Int.mul_ediv_cancel' hd
 rw [e,Int.mul_zero] at this
 exact h2 this.symm
theorem nxt_rel {a b T R:List Int} (hb:0<dg b) (h:nN a b T R) :
  ∃ α β q,0<α∧0<β∧∀ x,α*pev a x=pev q x*pev b x - β*pev (redc (nxt a b R)) x:=by
 have hl:=oN hb
 have e1:∀ y:List Int,(R=[]→y=[])→∀ x,pev y x=(if R=[] then 1 else (cO y:Int))*pev (redc y) x:=fun y hy x=>by
  by_cases h0:R=[]
  ·rw [if_pos h0,hy h0]; simp [redc,pev]
  ·rw [if_neg h0,redc_ev]
 have hn0:R=[]→nxt a b R=[]:=fun e=>by
  unfold nxt; rw [e]; split <;> rfl
 have hcp:R≠[]→0<(cO (nxt a b R):Int):=fun h0=>by
  have h1:0<dg R:=by rw [eK h.rn]; exact List.length_pos_iff.2 h0
  have h2:cO (nxt a b R)=cO R:=by
   unfold nxt; split
   ·rw [vD (c := -1) (l:=R) fun x=>by rw [cS]]; simp
   ·rfl
  have h3:cO R≠0:=fun e=>by have:=eD.1 e; omega
  rw [h2]; omega
 have hβ:0<(if R=[] then 1 else (cO (nxt a b R):Int)):=by
  split
  ·decide
  ·rename_i h0; exact hcp h0
 generalize hd:dg a+1 - dg b=d at *
 have hpow:((d%2=0∨0<ld b)→0<ld b^d)∧(¬ (d%2=0∨0<ld b)→0 < -(ld b^d)):=by
  constructor
  ·rintro (h1 | h1)
   ·obtain ⟨e,he⟩:∃ e,d=2*e:=⟨d/2,by omega⟩
    rw [he,Int.pow_mul]
    refine Int.pow_pos ?_
    rw [show (2:Nat)=1+1 from rfl,Int.pow_succ,Int.pow_succ,Int.pow_zero,Int.one_mul]
    rcases Int.lt_trichotomy (ld b) 0 with k | k | k
    ·exact Int.mul_pos_of_neg_of_neg k k
    ·exact absurd k hl
    ·exact Int.mul_pos k k
   ·exact Int.pow_pos h1
  ·intro h1
   obtain ⟨e,he⟩:∃ e,d=2*e+1:=⟨d/2,by omega⟩
   have h2:ld b<0:=by omega
   have h3:0<ld b^(2*e):=by
    rw [Int.pow_mul]
    refine Int.pow_pos ?_
    rw [show (2:Nat)=1+1 from rfl,Int.pow_succ,Int.pow_succ,Int.pow_zero,Int.one_mul]
    exact Int.mul_pos_of_neg_of_neg h2 h2
   rw [he,Int.pow_succ]
   have:=Int.mul_neg_of_pos_of_neg h3 h2
   omega
 have heq:=h.eq
 rw [hd] at heq
 by_cases hc:d%2=0∨0<ld b
 ·have en:nxt a b R=ptim (-1) R:=by unfold nxt; rw [hd,if_pos hc]
  refine ⟨ld b^d,_,T,hpow.1 hc,hβ,fun x=>?_⟩
  rw [← e1 _ hn0 x,en,cS,heq]
  grind
 ·have en:nxt a b R=R:=by unfold nxt; rw [hd,if_neg hc]
  refine ⟨-(ld b^d),_,ptim (-1) T,hpow.2 hc,hβ,fun x=>?_⟩
  rw [← e1 _ hn0 x,en,cS]
  have:=heq x
  grind
theorem nxt_nm {a b R:List Int} (h:Nm R):Nm (nxt a b R):=by
 unfold nxt; split
 ·exact iE _
 ·exact h
theorem nxt_dg (a b R:List Int):dg (nxt a b R)=dg R:=by
 unfold nxt; split
 ·by_cases h0:dg R=0
  ·rw [h0]; exact dE.2 fun x=>by rw [cS,dE.1 h0]; rfl
  ·have e:∀ x,pev (ptim (-1) R) x=pev R x*pev [-1] x:=fun x=>by rw [cS]; simp [pev]
   have:=(rK e qN qE).1
   rw [show dg [-1]=1 from rfl] at this; omega
 ·rfl
theorem CH.start {s:List Int} (hs:Nm s) (h0:s≠[]):CH s [s] (pder s):=by
 have e0:chF [s] (pder s) 0=s:=rfl
 have e1:chF [s] (pder s) 1=pder s:=rfl
 refine ⟨Nat.le_refl _,rfl,fun i hi=>?_,rfl,fun i hi=>?_,fun i hi=>?_,fun i hi=>absurd hi qP⟩
 ·have hi':i≤1:=hi
  have:i=0∨i=1:=by omega
  rcases this with rfl | rfl
  ·exact hs
  ·exact pder_nm s
 ·have hi':i<1:=hi
  obtain rfl:i=0:=by omega
  exact h0
 ·have hi':i<1:=hi
  obtain rfl:i=0:=by omega
  rw [e0,e1]
  have hp:=List.length_pos_iff.2 h0
  have h1:=eK hs
  have h2:dg (pder s)=(pder s).length:=eK (pder_nm s)
  by_cases h:2≤dg s
  ·have:=pder_dg h; omega
  ·have:=dE.2 (pder_low (l:=s) qN); omega
theorem CH.step {s:List Int} {ls:List (List Int)} {nx T R:List Int} (h:CH s ls nx) (h0:nx≠[]) (hR:nN (chF ls nx (ls.length - 1)) nx T R) :
  CH s (ls++[nx]) (redc (nxt (chF ls nx (ls.length - 1)) nx R)):=by
 have hl:=h.len
 have hnx:=h.nm ls.length (Nat.le_refl _)
 rw [nI] at hnx
 have hlen:(ls++[nx]).length=ls.length+1:=by simp
 have el:∀ y,chF (ls++[nx]) y (ls.length+1)=y:=fun y=>by have:=nI (ls++[nx]) y; rw [hlen] at this; exact this
 have es:∀ y i,i≤ls.length→chF (ls++[nx]) y i=chF ls nx i:=fun y i hi=>chF_snoc hi
 have hdn:0<dg nx:=by rw [eK hnx]; exact List.length_pos_iff.2 h0
 refine ⟨by omega,by rw [es _ _ (Nat.zero_le _)]; exact h.hd,fun i hi=>?_,by rw [es _ _ hl]; exact h.one,fun i hi=>?_,fun i hi=>?_,fun i hi=>?_⟩
 ·by_cases e:i=ls.length+1
  ·rw [e,el]; exact redc_nm (nxt_nm hR.rn)
  ·rw [es _ _ qN]; exact h.nm i qN
 ·by_cases e:i=ls.length
  ·rw [e,es _ _ (Nat.le_refl _),nI]; exact h0
  ·rw [es _ _ qN]; exact h.pos i qN
 ·by_cases e:i=ls.length
  ·rw [e,el,es _ _ (Nat.le_refl _),nI,kB,← eK (nxt_nm hR.rn),nxt_dg,← eK hnx]
   exact hR.low
  ·rw [es _ _ qN,es _ _ qN]; exact h.low i qN
 ·by_cases e:i+1=ls.length
  ·have e2:i=ls.length - 1:=by omega
   rw [show i+2=ls.length+1 by omega,el,es _ (i+1) qN,e,nI,es _ i qN,e2]
   exact nxt_rel hdn hR
  ·rw [es _ _ qN,es _ _ qN,es _ _ qN]
   exact h.rel i qN
theorem CH.short {s:List Int} {ls:List (List Int)} {nx:List Int} (h:CH s ls nx):∀ i,i≤ls.length→(chF ls nx i).length+i≤s.length
 | 0,_=>by rw [h.hd]; omega
 | i+1,hi=>by
  have:=CH.short h i qN
  have:=h.low i qN
  omega
theorem CH.chain {p s:List Int} {ls:List (List Int)} (hp:0<dg p) (hs:nM p s) (h:CH s ls []):Chain (fun i=>ls.getD i []) (ls.length - 1)∧ls.length≤dg s∧ls.getD 0 []=s:=by
 have hl:=h.len
 have hF:∀ i,i<ls.length→ls.getD i []=chF ls [] i:=fun i hi=>(chF_lt hi).symm
 have hlast:=nI ls []
 have hr:=h.pos (ls.length - 1) qN
 have hrn:=h.nm (ls.length - 1) qN
 have hdl:0<dg (chF ls [] (ls.length - 1)):=by rw [eK hrn]; exact List.length_pos_iff.2 hr
 have hz:∀ e,e≤ls.length - 1→Dv (pprim (chF ls [] (ls.length - 1))) (chF ls [] (ls.length - 1 - e))∧Dv (pprim (chF ls [] (ls.length - 1))) (chF ls [] (ls.length - 1 - e+1)):=fun e=>by
  induction e with
  | zero =>
   intro _
   refine ⟨⟨[kL (chF ls [] (ls.length - 1))],fun x=>?_⟩,?_⟩
   ·rw [Nat.sub_zero,jG]; simp only [pev]; grind
   ·rw [Nat.sub_zero,show ls.length - 1+1=ls.length by omega,hlast]
    exact Dv.zero _ fun _=>rfl
  | succ e ih =>
   intro he
   obtain ⟨i1,i2⟩:=ih qN
   obtain ⟨i,hi⟩:∃ i,ls.length - 1 - e=i+1:=⟨ls.length - 1 - e - 1,by omega⟩
   have e2:ls.length - 1 - (e+1)=i:=by omega
   rw [hi] at i1 i2
   rw [e2]
   refine ⟨?_,i1⟩
   obtain ⟨α,β,q,hα,hβ,hr⟩:=h.rel i qN
   refine Dv.prim (fI hdl) (show α≠0 by omega) ?_
   obtain ⟨u,hu⟩:=i1
   obtain ⟨v,hv⟩:=i2
   refine ⟨psub (pmul q u) (ptim β v),fun x=>?_⟩
   rw [eM,hr,hu,hv,iF,bM,cS]
   grind
 have hz0:=hz (ls.length - 1) (Nat.le_refl _)
 rw [Nat.sub_self,h.hd,Nat.zero_add,h.one] at hz0
 obtain ⟨g,hg,hgs⟩:=hs.ok hp
 obtain ⟨d,hd⟩:=xD s (pder s)
 have hd1:=simple_free (by rw [dO]; exact hp) (fI hp) hg hgs hd
 have hzd:=hd.2.2.1 _ hz0.1 hz0.2
 have hz1:=hzd.deg qN
 rw [dO] at hz1
 have hone:(chF ls [] (ls.length - 1)).length=1:=by rw [← eK hrn]; omega
 refine ⟨⟨fun h1=>?_,fun i hi=>?_,?_⟩,?_,?_⟩
 ·show ls.getD 1 []=pder (ls.getD 0 [])
  rw [hF 1 qN,hF 0 qN,h.hd]; exact h.one
 ·show ∃ α β q,0<α∧0<β∧∀ x,α*pev (ls.getD i []) x=pev q x*pev (ls.getD (i+1) []) x - β*pev (ls.getD (i+2) []) x
  rw [hF i qN,hF (i+1) qN,hF (i+2) qN]
  exact h.rel i qN
 ·show ∃ k,k≠0∧ls.getD (ls.length - 1) []=[k]
  rw [hF _ qN]
  have hn:=nm_last.1 hrn hr
  obtain ⟨k,hk⟩:=List.length_eq_one_iff.1 hone
  rw [hk] at hn ⊢
  exact ⟨k,hn,rfl⟩
 ·have:=h.short (ls.length - 1) qN
  rw [eK hs.sn]
  omega
 ·rw [hF 0 qN]; exact h.hd
theorem vs_len:∀ (l:List Int) (t:Int),vs t l≤l.length
 | [],_=>Nat.le_refl _
 | x::l,t=>by
  have h1:=vs_len l t
  have h2:=vs_len l x
  simp only [vs,List.length_cons]
  split
  ·omega
  ·split <;> omega
theorem vs_len0:∀ (l:List Int),vs 0 l≤l.length - 1
 | []=>Nat.le_refl _
 | x::l=>by
  have h1:=vs_len0 l
  have h2:=vs_len l x
  simp only [vs,List.length_cons,Int.mul_zero,Int.lt_irrefl,if_false]
  split <;> omega
theorem tM (a b:Nat) : -1≤oU a b∧oU a b≤1∧(oU a b=0↔a=b):=by
 unfold oU
 split
 ·omega
 ·split <;> omega
theorem rtimes_eq {Sl P s c Sa y a:Nat} (h:Sl+P*c=Sa*y) (hs:s=c+a*y):Sl+P*(s%4294967296)+P*4294967296*(s/4294967296)=(Sa+P*a)*y:=by
 have h1:P*(s%4294967296)+P*4294967296*(s/4294967296)=P*c+P*(a*y):=by
  rw [Nat.mul_assoc,← Nat.mul_add,Nat.mod_add_div,hs,Nat.mul_add]
 rw [Nat.add_mul,Nat.mul_assoc P a y]
 omega
theorem tT (va:Value) (a:List Nat) (y:Nat) (ha:Dig a) (hy:y<4294967296) (la:a.length≤2199023255552) :
  Meets Tryz.prog 131 [va,.int .u64 (y:Nat)] [(va,U a)] (fun r os fs=>os=[]∧fs=[(r,U (iN (dv a*y)))]):=by
 refine mV Tryz.func131 ?_
 refine aT (X:=Nat×List Nat×Nat×Value) (fun x=>([(0,va),(1,.int .u64 (y:Nat)),(5,x.2.2.2),(6,.int .u64 (x.2.2.1:Nat)),(7,.int .i64 (x.1:Nat))],[jH x.2.2.2 x.2.1],[(va,U a)]))
  (fun x=>x.1≤a.length+1∧(a.length<x.1→x.2.2.1=0)∧x.2.1.length=x.1∧Dig x.2.1∧x.2.2.1<4294967296∧isSl x.2.2.2 ∧
   dv x.2.1+4294967296^x.1*x.2.2.1=dv (a.take x.1)*y) (fun x=>(a.length - x.1)*4294967296+x.2.2.1) rfl ?_ ?_
 ·exact aU (0,[],0,.slice none 0 0) ⟨by simp,fun _=>rfl,rfl,Dig.nil,by simp,fF,by simp [dv]⟩ trivial qF ((Seals.nil_U _ _).trans (aA qS))
 ·rintro ⟨i,l,c,vo⟩ ⟨h1,hz,h2,h3,h4,h0,h5⟩
  simp only at h0 h1 hz h2 h3 h4 h5 ⊢
  have hx:=ha.get i
  by_cases hia:i<a.length
  ·have hp:a.getD i 0*y≤4294967295*4294967295:=Nat.mul_le_mul qN qN
   have hm:(a.length - i)*4294967296=(a.length - (i+1))*4294967296+4294967296:=by omega
   refine aO qM fun _=>?_
   refine cJ rfl qN ?_
   refine aO qM fun _=>?_
   refine cJ rfl qN ?_
   refine aK qM i rfl hia fun p=>?_
   refine bF qM ?_
   refine cW rfl ((a.getD i 0*y:Nat):Int) (by rw [← Int.natCast_mul]; exact cL ⟨Int.natCast_nonneg _,by omega⟩) ?_
   have hs:c+a.getD i 0*y=c+a.getD i 0*y:=rfl
   generalize hq:a.getD i 0*y=q at *
   refine cW rfl ((c+q:Nat):Int) (by rw [← Int.natCast_add]; exact cL ⟨Int.natCast_nonneg _,by omega⟩) ?_
   generalize hse:c+q=s at *
   refine jD qN qN ?_
   refine mU ((s)%4294967296) qN fun w=>?_
   refine gP 0 rfl h0 (a9 qM) (by simp; omega) (by simp; omega) fun v2 hv2=>?_
   refine iC qN qN qI ?_
   refine ar rfl qI ?_
   refine aU (i+1,l++[(s)%4294967296],(s)/4294967296,v2) ⟨by simp only; omega,fun h=>by simp only at h ⊢; omega,by simp [h2],h3.append (Dig.cons qN Dig.nil),by simp only; omega,hv2,?_⟩ (by simp only; omega) qF (aA qS)
   simp only
   rw [fN,h2,bW,Nat.pow_succ]
   simp only [dv,Nat.mul_zero,Nat.add_zero]
   exact rtimes_eq h5 (by rw [hq,hse])
  ·have ha0:=bO (l:=a) (i:=i) qN
   by_cases hc:0<c
   ·(repeat (first | (refine aO qM fun _=>?_) | (refine cJ rfl qN ?_) | (refine bR rfl qN ?_) | (refine aK qM _ rfl qN fun _=>?_) | (refine bF qM ?_) | (refine ar rfl qI ?_)))
    refine jD qN qN ?_
    refine mU ((c)%4294967296) qN fun w=>?_
    refine gP 0 rfl h0 (a9 qM) (by simp; omega) (by simp; omega) fun v2 hv2=>?_
    refine iC qN qN qI ?_
    refine ar rfl qI ?_
    refine aU (i+1,l++[(c)%4294967296],(c)/4294967296,v2) ⟨by simp only; omega,fun h=>by simp only at h ⊢; omega,by simp [h2],h3.append (Dig.cons qN Dig.nil),by simp only; omega,hv2,?_⟩ (by simp only; omega) qF (aA qS)
    simp only
    rw [fN,h2,bW,Nat.pow_succ]
    simp only [dv,Nat.mul_zero,Nat.add_zero]
    exact rtimes_eq h5 (by rw [ha0,Nat.zero_mul,Nat.add_zero])
   ·(repeat (first | (refine aO qM fun _=>?_) | (refine cJ rfl qN ?_) | (refine bR rfl qN ?_) | (refine aK qM _ rfl qN fun _=>?_) | (refine bF qM ?_) | (refine ar rfl qI ?_)))
    refine c8 (jY vo l) (Seals.U 0 rfl h0) qS ?_
    rintro r _ _ ⟨rfl,rfl⟩
    refine fin ⟨rfl,rfl⟩ (bA ((a9 qM).cast ?_) (aL _ _))
    rw [List.take_of_length_le qN,show c=0 by omega] at h5
    rw [o4 h3]
    congr 2
theorem lit_Uo {P:Program} {t e:TypeId} {bytes:Nat} {y:Int} {os:List Own} {fs:List bI} {K:cC} [ht:TSl P t e 1] [he:TEl P e 1 bytes] (x:Nat) (hx:y=(x:Int)) (k:∀ v,isSl v→K v (jH v [x]::os) fs) :
  BuildSliceK P t 1 [(0,.int .u64 y)] os fs K:=by
 subst hx
 have h1:=eY (P:=P) (t:=t) (os:=os) (fs:=fs) (K:=fun u os' fs'=>∃ os'' fs'',Seals os' fs' os'' fs''∧K u os'' fs'') (n:=1) [.int .u64 (x:Int)] [.one (.int .u64 (x:Int))] rfl rfl qE qE
  ⟨cX rfl,rfl,trivial⟩
 refine ⟨Grw.sealed (h1 fun v hv=>⟨_,_,?_,k v hv⟩).out⟩
 exact Seals.own_cong (os:=bK v 1 1 (fun i=>[Dat.one (.int .u64 (x:Int))].getD i (.one undef))::os) (fs:=fs) 0 (n':=[x].length) (UE [x]) rfl rfl fun i hi=>by
  have:i=0:=by omega
  subst this; rfl
theorem digit_of {R Y lo:Nat} (h1:lo*Y≤R) (h2:R<(lo+1)*Y):R/Y=lo∧R - Y*lo=R%Y:=by
 have hy:0<Y:=Nat.pos_of_ne_zero fun e=>by subst e; simp at h2
 have e:R/Y=lo:=by
  have a1:=(Nat.le_div_iff_mul_le hy).2 h1
  have a2:=(Nat.div_lt_iff_lt_mul hy).2 h2
  omega
 exact ⟨e,by rw [← e,Nat.mod_eq_sub]⟩
theorem dv_drop {l:List Nat} {i:Nat} (h:i<l.length):dv (l.drop i)=l.getD i 0+4294967296*dv (l.drop (i+1)):=by
 rw [List.drop_eq_getElem_cons h]
 simp only [dv]
 rw [gE,List.getElem?_eq_getElem h]; rfl
theorem xM {l:List Nat} {i x:Nat} (h:i<l.length):dv ((l.set i x).drop i)=x+4294967296*dv (l.drop (i+1)):=by
 rw [dv_drop (by simpa using h),dX h,if_pos rfl,List.drop_set_of_lt qN]
theorem div_step1 {X x Q R Y q r:Nat} (h:X=Q*Y+R) (hq:R*4294967296+x=q*Y+r):x+4294967296*X=(q+4294967296*Q)*Y+r:=by
 rw [h,Nat.add_mul,Nat.mul_add,← Nat.mul_assoc]
 omega
theorem wR {m n:Nat} (h:m≤n):(bQ m).length≤(bQ n).length:=cE (by
 have:=iD (aY n)
 rw [bY] at this
 omega)
theorem rDivMod_meets (va vb:Value) (a b:List Nat) (ha:Lim a) (hb:Lim b) (la:a.length≤274877906944) (lb:b.length≤274877906944) (h0:nv b≠0) :
  Meets Tryz.prog 87 [va,vb] [(va,U a),(vb,U b)] (fun r os fs=>os=[]∧∃ q m,r=.tuple #[q,m,.bool true]∧fs=[(q,U (bQ (nv a/nv b))),(m,U (bQ (nv a%nv b)))]):=by
 have h1:=mG ha
 have h2:=mG hb
 have dA:=eH (nv a)
 have dB:=eH (nv b)
 have eA:=d9 (nv a)
 have eB:=d9 (nv b)
 have hB0:(iN (nv b)).length≠0:=fun h=>h0 (digs_eq_nil.1 (List.eq_nil_of_length_eq_zero h))
 have hdm:=fP va a ha qN
 have hdm2:=fP vb b hb qN
 generalize hX:iN (nv a)=x at *
 generalize hY:iN (nv b)=y at *
 have hyb:∀ n,iN (dv y*n)=iN (nv b*n):=fun n=>by rw [eB]
 generalize hM:nv a=M at *
 generalize hN:nv b=N at *
 refine mV Tryz.func87 ?_
 refine cG hdm fun vx=>?_
 refine cG hdm2 fun vy=>?_
 refine aO qM fun _=>?_
 refine bR rfl qN ?_
 refine aO qM fun _=>?_
 refine oK x.length qN qN qN qN fun vq hq=>?_
 refine aO qM fun _=>?_
 refine aE _ rfl (fun hone=>?_) (fun hone=>?_)
 ·have hy1:y.length=1:=by omega
  have hyN:y.getD 0 0=N:=by
   obtain ⟨t,ht⟩:=List.length_eq_one_iff.1 hy1
   rw [ht] at eB ⊢
   simpa [dv] using eB
  have hNlt:N<4294967296:=by rw [← hyN]; exact dB.get 0
  refine aO qM fun _=>?_
  refine ar rfl qI ?_
  refine aT (X:=Nat×List Nat×Nat) (fun z=>([(7,vx),(8,vy),(9,vq),(10,.int .u64 (z.2.2:Nat)),(11,.int .i64 ((z.1:Int) - 1))],[jH vq z.2.1],[(vx,U x),(vy,U y)]))
   (fun z=>z.1≤x.length∧z.2.1.length=x.length∧Dig z.2.1∧z.2.2<N∧dv (x.drop z.1)=dv (z.2.1.drop z.1)*N+z.2.2) (fun z=>z.1) rfl ?_ ?_
  ·exact aU (x.length,List.replicate x.length 0,0) ⟨Nat.le_refl _,by simp,Dig.replicate _,by simp only; omega,by simp [dv]⟩ trivial qF (aA qS)
  ·rintro ⟨k,l,left⟩ ⟨g1,g2,g3,g4,g5⟩
   simp only at g1 g2 g3 g4 g5 ⊢
   refine aE _ rfl (fun hk=>?_) (fun hk=>?_)
   ·obtain ⟨i,rfl⟩:∃ i,k=i+1:=⟨k - 1,by omega⟩
    have hi:i<x.length:=by omega
    have hxi:=dA.get i
    have hl4:left*4294967296≤4294967294*4294967296:=Nat.mul_le_mul_right _ qN
    have hs1:=Nat.mod_lt (left*4294967296+x.getD i 0) (show 0<N by omega)
    have hs2:=Nat.div_add_mod (left*4294967296+x.getD i 0) N
    have hdl:(left*4294967296+x.getD i 0)/N<4294967296:=by
     refine (Nat.div_lt_iff_lt_mul qN).2 ?_
     have:(left+1)*4294967296≤N*4294967296:=Nat.mul_le_mul_right _ qN
     rw [Nat.mul_comm 4294967296 N]; omega
    have hdr:=dv_drop hi
    have hds:=xM (l:=l) (i:=i) (x:=(left*4294967296+x.getD i 0)/N) qN
    refine cW rfl ((left*4294967296:Nat):Int) (by rw [show ((left:Int)*4294967296)=((left*4294967296:Nat):Int) by omega]; exact cL ⟨Int.natCast_nonneg _,by omega⟩) ?_
    refine aK qM i qN hi fun p=>?_
    refine bF qM ?_
    refine cW rfl ((left*4294967296+x.getD i 0:Nat):Int) (by rw [← Int.natCast_add]; exact cL ⟨Int.natCast_nonneg _,by omega⟩) ?_
    have hst:=div_step1 (x:=x.getD i 0) (q:=(left*4294967296+x.getD i 0)/N) (r:=(left*4294967296+x.getD i 0)%N) g5 (by rw [Nat.mul_comm _ N]; omega)
    generalize left*4294967296+x.getD i 0=s at *
    refine aK qM 0 rfl qN fun p2=>?_
    refine bF qM ?_
    rw [hyN]
    refine iC qN qN (by rw [← Int.natCast_ediv]; exact ⟨Int.natCast_nonneg _,by omega⟩) ?_
    refine dZ 0 rfl hq i qN qN ?_
    refine eI 0 rfl (s/N) (by rw [Int.natCast_ediv]) qN ?_
    refine aK qM 0 rfl qN fun p3=>?_
    refine bF qM ?_
    rw [hyN]
    refine jD qN qN ?_
    refine ar rfl qI ?_
    refine aU (i,l.set i (s/N),s%N) ⟨by simp only; omega,by simp [g2],g3.set _ hdl,hs1,?_⟩ (by simp only; omega) ⟨rfl,rfl,rfl,u64_eq (by simp only; rw [Int.natCast_emod]),mC (by simp only; omega),trivial⟩ (aA qS)
    simp only
    rw [hdr,hds,hst]
   ·have hk0:k=0:=by omega
    subst hk0
    rw [List.drop_zero,List.drop_zero,eA] at g5
    have hlen:=dv_lt g3
    obtain ⟨e1,e2⟩:=digit_of (R:=M) (Y:=N) (lo:=dv l) qN (by rw [Nat.succ_mul]; omega)
    have e3:M%N=left:=by rw [← e2,Nat.mul_comm N]; omega
    refine c8 (gX vq l g3 qN) (Seals.U 0 rfl hq) qS ?_
    rintro r1 _ _ ⟨rfl,rfl⟩
    refine mU left rfl fun w=>?_
    refine cG (gX w [left] (Dig.cons qN Dig.nil) qP) fun r2=>?_
    refine fin ⟨rfl,r1,r2,rfl,rfl⟩ (bA ((a9 qM).cast (by rw [e1])) (bA ((a9 qM).cast (by rw [e3]; simp [dv])) (aL _ _)))
 ·have hN0:0<N:=by omega
  refine aO qM fun _=>?_
  refine ar rfl qI ?_
  refine aT (X:=Nat×List Nat×Nat×Value) (fun z=>([(7,vx),(8,vy),(9,vq),(12,z.2.2.2),(13,.int .i64 ((z.1:Int) - 1))],[jH vq z.2.1],[(vx,U x),(vy,U y),(z.2.2.2,U (iN z.2.2.1))]))
   (fun z=>z.1≤x.length∧z.2.1.length=x.length∧Dig z.2.1∧z.2.2.1<N∧dv (x.drop z.1)=dv (z.2.1.drop z.1)*N+z.2.2.1) (fun z=>z.1) rfl ?_ ?_
  ·refine aU (x.length,List.replicate x.length 0,0,.slice none 0 0) ⟨Nat.le_refl _,by simp,Dig.replicate _,by simp only; omega,by simp [dv]⟩ trivial qF (aC (aA (fs':=[(vx,U x),(vy,U y)]) qS) (aC (bA (d:=U (iN 0)) (by rw [iJ]; exact dN 1 _) (aA (fs':=[(vx,U x),(vy,U y)]) qS)) (aA qS)))
  ·rintro ⟨k,l,R,vr⟩ ⟨g1,g2,g3,g4,g5⟩
   simp only at g1 g2 g3 g4 g5 ⊢
   refine aE _ rfl (fun hk=>?_) (fun hk=>?_)
   ·obtain ⟨i,rfl⟩:∃ i,k=i+1:=⟨k - 1,by omega⟩
    have hi:i<x.length:=by omega
    have hxi:=dA.get i
    have hRl:(iN R).length≤549755813888:=Nat.le_trans (fO (show R≤N by omega)) (by rw [hY]; omega)
    have hcons:iQ ([x.getD i 0]++iN R)=iN (R*4294967296+x.getD i 0):=by
     rw [o4 (Dig.append (Dig.cons hxi Dig.nil) (eH R)),fN,d9]
     congr 1
     simp [dv]; omega
    have hlt:R*4294967296+x.getD i 0<4294967296*N:=by
     have:(R+1)*4294967296≤N*4294967296:=Nat.mul_le_mul_right _ qN
     rw [Nat.mul_comm 4294967296 N]; omega
    have hdr:=dv_drop hi
    have hst:∀ lo,lo*N≤R*4294967296+x.getD i 0→R*4294967296+x.getD i 0<(lo+1)*N→dv (x.drop i)=dv ((l.set i lo).drop i)*N+(R*4294967296+x.getD i 0 - N*lo):=fun lo q1 q2=>by
     rw [hdr,xM qN]
     exact div_step1 g5 (by rw [Nat.mul_comm N lo]; omega)
    refine aK qM i qN hi fun p=>?_
    refine bF qM ?_
    refine lit_Uo (x.getD i 0) rfl fun w hw=>?_
    refine gP 0 rfl hw (a9 qM) (by simp; omega) (by simp; omega) fun v2 hv2=>?_
    refine c8 (jY v2 ([x.getD i 0]++iN R)) (Seals.U 0 rfl hv2) qS ?_
    rintro r1 _ _ ⟨rfl,rfl⟩
    rw [hcons]
    generalize R*4294967296+x.getD i 0=S at *
    refine aT (X:=Nat×Nat) (fun z=>([(7,vx),(8,vy),(9,vq),(12,r1),(13,.int .i64 (i:Nat)),(14,.int .u64 (z.1:Nat)),(15,.int .u64 (z.2:Nat))],[jH vq l],[(vx,U x),(vy,U y),(r1,U (iN S))]))
     (fun z=>z.1≤z.2∧z.2<4294967296∧z.1*N≤S∧S<(z.2+1)*N) (fun z=>z.2 - z.1) rfl ?_ ?_
    ·exact aU (0,4294967295) ⟨by simp,by simp,by simp,hlt⟩ trivial qF (aA qS)
    ·rintro ⟨lo,hi'⟩ ⟨f1,f2,f3,f4⟩
     simp only at f1 f2 f3 f4 ⊢
     refine aE _ rfl (fun hlo=>?_) (fun hlo=>?_)
     ·refine ar rfl qI ?_
      refine ar rfl qI ?_
      refine iC qN qN qI ?_
      have hmid:((lo:Int)+hi'+1)/2=(((lo+hi'+1)/2:Nat):Int):=by omega
      rw [hmid]
      have hm1:lo<(lo+hi'+1)/2:=by omega
      have hm2:(lo+hi'+1)/2≤hi':=by omega
      generalize (lo+hi'+1)/2=mid at *
      have htm:=tT vy y mid dB qN qN
      rw [eB] at htm
      refine cG htm fun w2=>?_
      refine cH (oV w2 r1 (N*mid) S) ?_
      refine aE _ rfl (fun hc=>?_) (fun hc=>?_)
      ·have hle:N*mid≤S:=by
        refine Nat.not_lt.1 fun h=>?_
        have:oU (N*mid) S=1:=by unfold oU; rw [if_neg qN,if_pos h]
        omega
       exact aU (mid,hi') ⟨hm2,f2,by simp only; rw [Nat.mul_comm]; exact hle,f4⟩ (by simp only; omega) qF (aA qS)
      ·have hgt:S<N*mid:=by
        refine Nat.not_le.1 fun h=>?_
        have:oU (N*mid) S≤0:=by
         unfold oU
         split
         ·decide
         ·split
          ·omega
          ·decide
        omega
       refine ar rfl qI ?_
       refine aU (lo,mid - 1) ⟨by simp only; omega,by simp only; omega,f3,?_⟩ (by simp only; omega) qF (aA qS)
       simp only
       rw [show mid - 1+1=mid by omega,Nat.mul_comm]; exact hgt
     ·have hll:hi'=lo:=by omega
      subst hll
      have hS:=hst hi' f3 f4
      obtain ⟨e1,e2⟩:=digit_of f3 f4
      have hlen:(iN (N*hi')).length≤(iN S).length:=fO (by rw [Nat.mul_comm]; exact f3)
      have hmod:=Nat.mod_lt S hN0
      refine dZ 0 rfl hq i rfl qN ?_
      refine eI 0 rfl hi' rfl qN ?_
      have htm:=tT vy y hi' dB qN qN
      rw [eB] at htm
      refine cG htm fun w2=>?_
      have hSl:(iN S).length≤2199023255552:=by
       refine Nat.le_trans (fO (a:=S) (show S≤N*4294967296 by rw [Nat.mul_comm]; omega)) ?_
       refine Nat.le_trans (iK (k:=y.length+1) ?_) qN
       have:=dv_lt dB
       rw [eB] at this
       rw [Nat.pow_succ]
       exact Nat.mul_lt_mul_of_pos_right this qE
      have hsb:=rsub_meets r1 w2 (iN S) (iN (N*hi')) (eH _) (eH _) hSl hlen (by rw [d9,d9,Nat.mul_comm]; exact f3)
      rw [d9,d9] at hsb
      refine cG hsb fun w3=>?_
      refine ar rfl qI ?_
      exact aU (i,l.set i hi',S - N*hi',w3) ⟨by simp only; omega,by simp [g2],g3.set _ f2,by simp only; omega,hS⟩ (by simp only; omega) qF (aA qS)
   ·have hk0:k=0:=by omega
    subst hk0
    rw [List.drop_zero,List.drop_zero,eA] at g5
    obtain ⟨e1,e2⟩:=digit_of (R:=M) (Y:=N) (lo:=dv l) qN (by rw [Nat.succ_mul]; omega)
    have e3:M%N=R:=by rw [← e2,Nat.mul_comm N]; omega
    have hRl:(iN R).length≤549755813888:=Nat.le_trans (fO (show R≤N by omega)) (by rw [hY]; omega)
    refine c8 (gX vq l g3 qN) (Seals.U 0 rfl hq) qS ?_
    rintro r1 _ _ ⟨rfl,rfl⟩
    refine cG (gX vr (iN R) (eH _) qN) fun r2=>?_
    refine fin ⟨rfl,r1,r2,rfl,rfl⟩ (bA ((a9 qM).cast (by rw [e1])) (bA ((a9 qM).cast (by rw [e3,d9])) (aL _ _)))
theorem one_sz {e:Nat} (h:1≤e):sz 1 e:=Nat.lt_of_lt_of_le (show (1:Int).natAbs<18446744073709551616^1 by decide) (Nat.pow_le_pow_right qE h)
theorem div_uniq {x y q r:Int} (h0:y≠0) (e:x=y*q+r) (h1:0≤r) (h2:r<y.natAbs):x/y=q∧x%y=r:=by
 have e1:x%y=r:=by
  rw [e,Int.add_comm,Int.add_mul_emod_self_left]
  rcases Int.lt_or_gt_of_ne h0 with h | h
  ·rw [← Int.emod_neg]; exact Int.emod_eq_of_lt h1 qN
  ·exact Int.emod_eq_of_lt h1 qN
 refine ⟨?_,e1⟩
 have h3:=Int.mul_ediv_add_emod x y
 rw [e1] at h3
 have h4:y*(x/y)=y*q:=by omega
 exact Int.eq_of_mul_eq_mul_left h0 h4
theorem rAbs_meets (v:Value) (s:Bool) (a:List Nat) (ha:Lim a) (la:a.length≤1099511627776) :
  Meets Tryz.prog 40 [v] [(v,I s a)] (fun r os fs=>os=[]∧fs=[(r,zd ((iv s a).natAbs:Nat))]):=by
 refine mV Tryz.func40 ?_
 refine bC (aB (d:=I s a) qM) fun p hp=>?_
 refine aH (d:=I false []) fun o ho=>?_
 refine aP 1 rfl hp ?_
 refine aQ 1 rfl (aS (aJ _)) (cU _) fun u=>?_
 refine cG (jZ u false a ha la) fun r0=>?_
 rw [show iv false a=((iv s a).natAbs:Nat) by rw [nS]; simp [iv]]
 generalize ((iv s a).natAbs:Int)=x
 refine aF (d:=zd x) 0 rfl ho rfl qK ?_ ?_; exact aB qM
 refine aD (d:=zd x) 0 rfl ho rfl (aN _ _) fun r=>?_
 exact fin ⟨rfl,rfl⟩ (aC (dS (aW 0 _ _)) (aA qS))
theorem sgn_div {x y:Int} (h0:y≠0) :
  let q0:Int:=if decide (x<0)=decide (y<0) then ((x.natAbs/y.natAbs:Nat):Int) else -((x.natAbs/y.natAbs:Nat):Int)
  let r0:Int:=if x<0 then -((x.natAbs%y.natAbs:Nat):Int) else ((x.natAbs%y.natAbs:Nat):Int)
  (r0<0→x/y=(if y<0 then q0+1 else q0 - 1)∧x%y=r0+y.natAbs)∧(¬ r0<0→x/y=q0∧x%y=r0):=by
 intro q0 r0
 have hY:0<y.natAbs:=by omega
 have hm:=Nat.mod_lt x.natAbs hY
 have hd:=Nat.div_add_mod x.natAbs y.natAbs
 have e:x=y*q0+r0:=by
  have h1:((y.natAbs*(x.natAbs/y.natAbs)+x.natAbs%y.natAbs:Nat):Int)=x.natAbs:=by rw [hd]
  rw [Int.natCast_add,Int.natCast_mul] at h1
  show x=y*(if decide (x<0)=decide (y<0) then _ else _)+(if x<0 then _ else _)
  generalize ((x.natAbs/y.natAbs:Nat):Int)=Q at *
  generalize ((x.natAbs%y.natAbs:Nat):Int)=R at *
  by_cases hx:x<0
  ·by_cases hy:y<0
   ·have ey:(y.natAbs:Int) = -y:=by omega
    rw [ey,Int.neg_mul] at h1
    simp only [hx,hy,decide_true,if_true]; omega
   ·have ey:(y.natAbs:Int)=y:=by omega
    rw [ey] at h1
    simp only [hx,hy,decide_true,decide_false,if_true,Bool.true_eq_false,if_false]
    rw [Int.mul_neg]; omega
  ·by_cases hy:y<0
   ·have ey:(y.natAbs:Int) = -y:=by omega
    rw [ey,Int.neg_mul] at h1
    simp only [hx,hy,decide_true,decide_false,Bool.false_eq_true,if_false]
    rw [Int.mul_neg]; omega
   ·have ey:(y.natAbs:Int)=y:=by omega
    rw [ey] at h1
    simp only [hx,hy,decide_false,if_true,if_false]; omega
 have hr:r0.natAbs=x.natAbs%y.natAbs:=by
  show (if x<0 then -((x.natAbs%y.natAbs:Nat):Int) else ((x.natAbs%y.natAbs:Nat):Int)).natAbs=_
  split <;> omega
 constructor
 ·intro hr0
  refine div_uniq h0 ?_ qN qN
  by_cases hy:y<0
  ·rw [if_pos hy,Int.mul_add,Int.mul_one]; omega
  ·rw [if_neg hy,Int.mul_sub,Int.mul_one]; omega
 ·intro hr0
  exact div_uniq h0 e qN qN
theorem rZDivMod_meets (v w:Value) (s t:Bool) (a b:List Nat) (ha:Lim a) (hb:Lim b) (la:a.length≤34359738368) (lb:b.length≤34359738368) (h0:iv t b≠0) :
  Meets Tryz.prog 37 [v,w] [(v,I s a),(w,I t b)] (fun r os fs=>os=[]∧∃ q m,r=.tuple #[q,m,.bool true]∧fs=[(q,zd (iv s a/iv t b)),(m,zd (iv s a%iv t b))]):=by
 have hxs:sz (iv s a) a.length:=fZ (x:=(s,a)) ha (Nat.le_refl _)
 have hys:sz (iv t b) b.length:=fZ (x:=(t,b)) hb (Nat.le_refl _)
 have n1:=fun u=>gQ u s a ha qN
 have n2:=fun u=>gQ u t b hb qN
 refine mV Tryz.func37 ?_
 refine bC (aB (d:=I s a) qM) fun p hp=>?_
 refine bC (aB (d:=I t b) qM) fun q hq=>?_
 refine aH (d:=I false []) fun o ho=>?_
 refine aH (d:=I false []) fun o2 ho2=>?_
 refine aD (d:=I s a) 3 rfl hp rfl (aN _ _) fun v1=>?_
 refine cG (n1 v1) fun v2=>?_
 refine aF (d:=zd (iv s a)) 3 rfl hp rfl qK ?_ ?_; exact aB qM
 refine aD (d:=I t b) 2 rfl hq rfl (aN _ _) fun w1=>?_
 refine cG (n2 w1) fun w2=>?_
 refine aF (d:=zd (iv t b)) 2 rfl hq rfl qK ?_ ?_; exact aB qM
 generalize iv s a=x at *
 generalize iv t b=y at *
 have hx1:=hxs.len
 have hy1:=hys.len
 have hsg:=sgn_div (x:=x) h0
 simp only at hsg
 have hY:0<y.natAbs:=by omega
 have hR:=Nat.mod_lt x.natAbs hY
 have hQ:=Nat.div_le_self x.natAbs y.natAbs
 have lQ:(bQ (x.natAbs/y.natAbs)).length≤1099511627776:=Nat.le_trans (wR hQ) qN
 have lR:(bQ (x.natAbs%y.natAbs)).length≤1099511627776:=Nat.le_trans (wR (Nat.le_of_lt hR)) qN
 have hdm:=fun u u'=>rDivMod_meets u u' (bQ x.natAbs) (bQ y.natAbs) (aY _) (aY _) qN qN (by rw [bY]; omega)
 simp only [bY] at hdm
 have sR:∀ r:Int,r.natAbs=x.natAbs%y.natAbs→sz r (a.length+b.length+1):=fun r hr=>by
  have h1:=hys.mono (show b.length≤a.length+b.length+1 by omega)
  unfold sz at h1 ⊢; omega
 have sQ:∀ r:Int,r.natAbs=x.natAbs/y.natAbs→sz r (a.length+b.length+1):=fun r hr=>by
  have h1:=hxs.mono (show a.length≤a.length+b.length+1 by omega)
  unfold sz at h1 ⊢; omega
 have sY:sz ((y.natAbs:Nat):Int) (a.length+b.length+1):=by
  have h1:=hys.mono (show b.length≤a.length+b.length+1 by omega)
  unfold sz at h1 ⊢; omega
 have hab:=fun u=>rAbs_meets u (decide (y<0)) (bQ y.natAbs) (aY _) qN
 rw [jT] at hab
 obtain ⟨R0,hR0⟩:∃ R0:Int,(if x<0 then -((x.natAbs%y.natAbs:Nat):Int) else ((x.natAbs%y.natAbs:Nat):Int))=R0:=⟨_,rfl⟩
 have hR0e:R0=if decide (x<0)=true then -((x.natAbs%y.natAbs:Nat):Int) else ((x.natAbs%y.natAbs:Nat):Int):=by
  rw [← hR0]
  by_cases h:x<0
  ·simp [h]
  ·simp [h]
 have hR0a:R0.natAbs=x.natAbs%y.natAbs:=by rw [← hR0]; split <;> omega
 rw [hR0] at hsg
 have sR0:=sR R0 hR0a
 have one:sz 1 (a.length+b.length+1):=one_sz qN
 have hE:a.length+b.length+1≤137438953472:=by omega
 generalize hQn:x.natAbs/y.natAbs=Q at *
 generalize hRn:x.natAbs%y.natAbs=R at *
 generalize a.length+b.length+1=E at *
 refine aP 3 rfl hp ?_
 refine aQ (d:=U (bQ (x).natAbs)) 3 rfl (aS (aJ _)) (cU _) fun u1=>?_
 refine aP 2 rfl hq ?_
 refine aQ (d:=U (bQ (y).natAbs)) 2 rfl (aS (aJ _)) (cU _) fun u2=>?_
 refine cF (hdm u1 u2) ?_
 rintro _ _ _ ⟨rfl,z1,z2,rfl,rfl⟩
 refine aP 3 rfl hp ?_
 refine aG (u:=.bool (decide (x<0))) 3 rfl (aZ (aJ _)) ?_
 refine aP 2 rfl hq ?_
 refine aG (u:=.bool (decide (y<0))) 2 rfl (aZ (aJ _)) ?_
 refine gY (fun hc=>?_) (fun hc=>?_)
 ·rw [if_neg hc] at hsg
  refine cG (kW z1 true Q (-(Q:Int)) lQ rfl) fun m1=>?_
  refine aH (d:=I false []) fun q2 hq2=>?_
  refine aF (d:=zd (-(Q:Int))) 0 rfl hq2 rfl qK ?_ ?_; exact aB qM
  refine aP 4 rfl hp ?_
  refine aG (u:=.bool (decide (x<0))) 4 rfl (aZ (aJ _)) ?_
  refine cG (kW z2 (decide (x<0)) R R0 lR hR0e) fun m2=>?_
  refine aH (d:=I false []) fun r2 hr2=>?_
  refine aF (d:=zd R0) 0 rfl hr2 rfl qK ?_ ?_; exact aB qM
  refine aP 0 rfl hr2 ?_
  refine aG (u:=.bool (decide (R0<0))) 0 rfl (aZ (aJ _)) ?_
  have sQ0:=sQ (-(Q:Int)) qN
  by_cases hneg:R0<0
  ·obtain ⟨e1,e2⟩:=hsg.1 hneg
   have had:=fun u u'=>rAddZ u u' R0 ((y.natAbs:Nat):Int) E sR0 sY hE
   rw [← e2] at had
   rw [decide_eq_true hneg]
   refine a0 [0,1,2,3,4] [0,1,2,3,4] qK qK ?_
   refine aD (d:=zd R0) 0 rfl hr2 rfl (aN _ _) fun y1=>?_
   refine aD (d:=zd y) 4 rfl hq rfl (aN _ _) fun y2=>?_
   refine cG (hab y2) fun y3=>?_
   refine cG (had y1 y3) fun y4=>?_
   refine aF (d:=zd (x%y)) 0 rfl hr2 rfl qK ?_ ?_; exact aB qM
   refine aP 4 rfl hq ?_
   refine aG (u:=.bool (decide (y<0))) 4 rfl (aZ (aJ _)) ?_
   by_cases hy0:y<0
   ·rw [if_pos hy0] at e1
    have ha2:=fun u u'=>rAddZ u u' (-(Q:Int)) 1 E sQ0 one hE
    rw [← e1] at ha2
    rw [decide_eq_true hy0]
    refine a0 [0,1,2,3] [0,1,2,3] qK qK ?_
    refine aD (d:=zd (-(Q:Int))) 1 rfl hq2 rfl (aN _ _) fun y5=>?_
    refine cG (jE 1 qE qE) fun y6=>?_
    refine cG (ha2 y5 y6) fun y7=>?_
    refine aF (d:=zd (x/y)) 1 rfl hq2 rfl qK ?_ ?_; exact aB qM
    refine eN [0,2,1,3,4] qK ?_
    refine a7 1 2 qK qK qK ?_ ?_
    ·refine cB [0,1,2,3,4] qK qK ?_
     refine aD (d:=zd (x/y)) 1 rfl hq2 rfl (aN _ _) fun t1=>?_
     refine aD (d:=zd (x%y)) 0 rfl hr2 rfl (aN _ _) fun t2=>?_
     refine aF (d:=zd (x/y)) 3 rfl ho rfl qK ?_ ?_; exact aB qM
     refine aF (d:=zd (x%y)) 2 rfl ho2 rfl qK ?_ ?_; exact aB qM
     refine aD (d:=zd (x/y)) 3 rfl ho rfl (aN _ _) fun r1=>?_
     refine aD (d:=zd (x%y)) 2 rfl ho2 rfl (aN _ _) fun r2'=>?_
     exact fin ⟨rfl,r1,r2',rfl,rfl⟩ (dS (dS (dS (dS (dS (dS (aA (fs':=[(r1,zd (x/y)),(r2',zd (x%y))]) qS)))))))
    ·refine cB [0,2,1,3,4] qK qK ?_
     refine aD (d:=zd (x/y)) 1 rfl hq2 rfl (aN _ _) fun t1=>?_
     refine aF (d:=zd (x/y)) 3 rfl ho rfl qK ?_ ?_; exact aB qM
     refine aD (d:=zd (x%y)) 0 rfl hr2 rfl (aN _ _) fun t2=>?_
     refine aF (d:=zd (x%y)) 2 rfl ho2 rfl qK ?_ ?_; exact aB qM
     refine aD (d:=zd (x/y)) 3 rfl ho rfl (aN _ _) fun r1=>?_
     refine aD (d:=zd (x%y)) 2 rfl ho2 rfl (aN _ _) fun r2'=>?_
     exact fin ⟨rfl,r1,r2',rfl,rfl⟩ (dS (dS (dS (dS (dS (dS (aA (fs':=[(r1,zd (x/y)),(r2',zd (x%y))]) qS)))))))
   ·rw [if_neg hy0] at e1
    have ha2:=fun u u'=>rSubZ u u' (-(Q:Int)) 1 E sQ0 one hE
    rw [← e1] at ha2
    rw [decide_eq_false hy0]
    refine a0 [0,1,2,3] [0,1,2,3] qK qK ?_
    refine aD (d:=zd (-(Q:Int))) 1 rfl hq2 rfl (aN _ _) fun y5=>?_
    refine cG (jE 1 qE qE) fun y6=>?_
    refine cG (ha2 y5 y6) fun y7=>?_
    refine aF (d:=zd (x/y)) 1 rfl hq2 rfl qK ?_ ?_; exact aB qM
    refine eN [0,2,1,3,4] qK ?_
    refine a7 1 2 qK qK qK ?_ ?_
    ·refine cB [0,1,2,3,4] qK qK ?_
     refine aD (d:=zd (x/y)) 1 rfl hq2 rfl (aN _ _) fun t1=>?_
     refine aD (d:=zd (x%y)) 0 rfl hr2 rfl (aN _ _) fun t2=>?_
     refine aF (d:=zd (x/y)) 3 rfl ho rfl qK ?_ ?_; exact aB qM
     refine aF (d:=zd (x%y)) 2 rfl ho2 rfl qK ?_ ?_; exact aB qM
     refine aD (d:=zd (x/y)) 3 rfl ho rfl (aN _ _) fun r1=>?_
     refine aD (d:=zd (x%y)) 2 rfl ho2 rfl (aN _ _) fun r2'=>?_
     exact fin ⟨rfl,r1,r2',rfl,rfl⟩ (dS (dS (dS (dS (dS (dS (aA (fs':=[(r1,zd (x/y)),(r2',zd (x%y))]) qS)))))))
    ·refine cB [0,2,1,3,4] qK qK ?_
     refine aD (d:=zd (x/y)) 1 rfl hq2 rfl (aN _ _) fun t1=>?_
     refine aF (d:=zd (x/y)) 3 rfl ho rfl qK ?_ ?_; exact aB qM
     refine aD (d:=zd (x%y)) 0 rfl hr2 rfl (aN _ _) fun t2=>?_
     refine aF (d:=zd (x%y)) 2 rfl ho2 rfl qK ?_ ?_; exact aB qM
     refine aD (d:=zd (x/y)) 3 rfl ho rfl (aN _ _) fun r1=>?_
     refine aD (d:=zd (x%y)) 2 rfl ho2 rfl (aN _ _) fun r2'=>?_
     exact fin ⟨rfl,r1,r2',rfl,rfl⟩ (dS (dS (dS (dS (dS (dS (aA (fs':=[(r1,zd (x/y)),(r2',zd (x%y))]) qS)))))))
  ·obtain ⟨e1,e2⟩:=hsg.2 hneg
   rw [decide_eq_false hneg]
   rw [← e1,← e2]
   refine eN [0,2,1,3,4] qK ?_
   refine a7 1 2 qK qK qK ?_ ?_
   ·refine cB [0,1,2,3,4] qK qK ?_
    refine aD (d:=zd (x/y)) 1 rfl hq2 rfl (aN _ _) fun t1=>?_
    refine aD (d:=zd (x%y)) 0 rfl hr2 rfl (aN _ _) fun t2=>?_
    refine aF (d:=zd (x/y)) 3 rfl ho rfl qK ?_ ?_; exact aB qM
    refine aF (d:=zd (x%y)) 2 rfl ho2 rfl qK ?_ ?_; exact aB qM
    refine aD (d:=zd (x/y)) 3 rfl ho rfl (aN _ _) fun r1=>?_
    refine aD (d:=zd (x%y)) 2 rfl ho2 rfl (aN _ _) fun r2'=>?_
    exact fin ⟨rfl,r1,r2',rfl,rfl⟩ (dS (dS (dS (dS (dS (dS (aA (fs':=[(r1,zd (x/y)),(r2',zd (x%y))]) qS)))))))
   ·refine cB [0,2,1,3,4] qK qK ?_
    refine aD (d:=zd (x/y)) 1 rfl hq2 rfl (aN _ _) fun t1=>?_
    refine aF (d:=zd (x/y)) 3 rfl ho rfl qK ?_ ?_; exact aB qM
    refine aD (d:=zd (x%y)) 0 rfl hr2 rfl (aN _ _) fun t2=>?_
    refine aF (d:=zd (x%y)) 2 rfl ho2 rfl qK ?_ ?_; exact aB qM
    refine aD (d:=zd (x/y)) 3 rfl ho rfl (aN _ _) fun r1=>?_
    refine aD (d:=zd (x%y)) 2 rfl ho2 rfl (aN _ _) fun r2'=>?_
    exact fin ⟨rfl,r1,r2',rfl,rfl⟩ (dS (dS (dS (dS (dS (dS (aA (fs':=[(r1,zd (x/y)),(r2',zd (x%y))]) qS)))))))
 ·rw [if_pos hc] at hsg
  refine cG (kW z1 false Q (Q:Int) lQ rfl) fun m1=>?_
  refine aH (d:=I false []) fun q2 hq2=>?_
  refine aF (d:=zd (Q:Int)) 0 rfl hq2 rfl qK ?_ ?_; exact aB qM
  refine aP 4 rfl hp ?_
  refine aG (u:=.bool (decide (x<0))) 4 rfl (aZ (aJ _)) ?_
  refine cG (kW z2 (decide (x<0)) R R0 lR hR0e) fun m2=>?_
  refine aH (d:=I false []) fun r2 hr2=>?_
  refine aF (d:=zd R0) 0 rfl hr2 rfl qK ?_ ?_; exact aB qM
  refine aP 0 rfl hr2 ?_
  refine aG (u:=.bool (decide (R0<0))) 0 rfl (aZ (aJ _)) ?_
  have sQ0:=sQ (Q:Int) qN
  by_cases hneg:R0<0
  ·obtain ⟨e1,e2⟩:=hsg.1 hneg
   have had:=fun u u'=>rAddZ u u' R0 ((y.natAbs:Nat):Int) E sR0 sY hE
   rw [← e2] at had
   rw [decide_eq_true hneg]
   refine a0 [0,1,2,3,4] [0,1,2,3,4] qK qK ?_
   refine aD (d:=zd R0) 0 rfl hr2 rfl (aN _ _) fun y1=>?_
   refine aD (d:=zd y) 4 rfl hq rfl (aN _ _) fun y2=>?_
   refine cG (hab y2) fun y3=>?_
   refine cG (had y1 y3) fun y4=>?_
   refine aF (d:=zd (x%y)) 0 rfl hr2 rfl qK ?_ ?_; exact aB qM
   refine aP 4 rfl hq ?_
   refine aG (u:=.bool (decide (y<0))) 4 rfl (aZ (aJ _)) ?_
   by_cases hy0:y<0
   ·rw [if_pos hy0] at e1
    have ha2:=fun u u'=>rAddZ u u' (Q:Int) 1 E sQ0 one hE
    rw [← e1] at ha2
    rw [decide_eq_true hy0]
    refine a0 [0,1,2,3] [0,1,2,3] qK qK ?_
    refine aD (d:=zd (Q:Int)) 1 rfl hq2 rfl (aN _ _) fun y5=>?_
    refine cG (jE 1 qE qE) fun y6=>?_
    refine cG (ha2 y5 y6) fun y7=>?_
    refine aF (d:=zd (x/y)) 1 rfl hq2 rfl qK ?_ ?_; exact aB qM
    refine eN [0,2,1,3,4] qK ?_
    refine a7 1 2 qK qK qK ?_ ?_
    ·refine cB [0,1,2,3,4] qK qK ?_
     refine aD (d:=zd (x/y)) 1 rfl hq2 rfl (aN _ _) fun t1=>?_
     refine aD (d:=zd (x%y)) 0 rfl hr2 rfl (aN _ _) fun t2=>?_
     refine aF (d:=zd (x/y)) 3 rfl ho rfl qK ?_ ?_; exact aB qM
     refine aF (d:=zd (x%y)) 2 rfl ho2 rfl qK ?_ ?_; exact aB qM
     refine aD (d:=zd (x/y)) 3 rfl ho rfl (aN _ _) fun r1=>?_
     refine aD (d:=zd (x%y)) 2 rfl ho2 rfl (aN _ _) fun r2'=>?_
     exact fin ⟨rfl,r1,r2',rfl,rfl⟩ (dS (dS (dS (dS (dS (dS (aA (fs':=[(r1,zd (x/y)),(r2',zd (x%y))]) qS)))))))
    ·refine cB [0,2,1,3,4] qK qK ?_
     refine aD (d:=zd (x/y)) 1 rfl hq2 rfl (aN _ _) fun t1=>?_
     refine aF (d:=zd (x/y)) 3 rfl ho rfl qK ?_ ?_; exact aB qM
     refine aD (d:=zd (x%y)) 0 rfl hr2 rfl (aN _ _) fun t2=>?_
     refine aF (d:=zd (x%y)) 2 rfl ho2 rfl qK ?_ ?_; exact aB qM
     refine aD (d:=zd (x/y)) 3 rfl ho rfl (aN _ _) fun r1=>?_
     refine aD (d:=zd (x%y)) 2 rfl ho2 rfl (aN _ _) fun r2'=>?_
     exact fin ⟨rfl,r1,r2',rfl,rfl⟩ (dS (dS (dS (dS (dS (dS (aA (fs':=[(r1,zd (x/y)),(r2',zd (x%y))]) qS)))))))
   ·rw [if_neg hy0] at e1
    have ha2:=fun u u'=>rSubZ u u' (Q:Int) 1 E sQ0 one hE
    rw [← e1] at ha2
    rw [decide_eq_false hy0]
    refine a0 [0,1,2,3] [0,1,2,3] qK qK ?_
    refine aD (d:=zd (Q:Int)) 1 rfl hq2 rfl (aN _ _) fun y5=>?_
    refine cG (jE 1 qE qE) fun y6=>?_
    refine cG (ha2 y5 y6) fun y7=>?_
    refine aF (d:=zd (x/y)) 1 rfl hq2 rfl qK ?_ ?_; exact aB qM
    refine eN [0,2,1,3,4] qK ?_
    refine a7 1 2 qK qK qK ?_ ?_
    ·refine cB [0,1,2,3,4] qK qK ?_
     refine aD (d:=zd (x/y)) 1 rfl hq2 rfl (aN _ _) fun t1=>?_
     refine aD (d:=zd (x%y)) 0 rfl hr2 rfl (aN _ _) fun t2=>?_
     refine aF (d:=zd (x/y)) 3 rfl ho rfl qK ?_ ?_; exact aB qM
     refine aF (d:=zd (x%y)) 2 rfl ho2 rfl qK ?_ ?_; exact aB qM
     refine aD (d:=zd (x/y)) 3 rfl ho rfl (aN _ _) fun r1=>?_
     refine aD (d:=zd (x%y)) 2 rfl ho2 rfl (aN _ _) fun r2'=>?_
     exact fin ⟨rfl,r1,r2',rfl,rfl⟩ (dS (dS (dS (dS (dS (dS (aA (fs':=[(r1,zd (x/y)),(r2',zd (x%y))]) qS)))))))
    ·refine cB [0,2,1,3,4] qK qK ?_
     refine aD (d:=zd (x/y)) 1 rfl hq2 rfl (aN _ _) fun t1=>?_
     refine aF (d:=zd (x/y)) 3 rfl ho rfl qK ?_ ?_; exact aB qM
     refine aD (d:=zd (x%y)) 0 rfl hr2 rfl (aN _ _) fun t2=>?_
     refine aF (d:=zd (x%y)) 2 rfl ho2 rfl qK ?_ ?_; exact aB qM
     refine aD (d:=zd (x/y)) 3 rfl ho rfl (aN _ _) fun r1=>?_
     refine aD (d:=zd (x%y)) 2 rfl ho2 rfl (aN _ _) fun r2'=>?_
     exact fin ⟨rfl,r1,r2',rfl,rfl⟩ (dS (dS (dS (dS (dS (dS (aA (fs':=[(r1,zd (x/y)),(r2',zd (x%y))]) qS)))))))
  ·obtain ⟨e1,e2⟩:=hsg.2 hneg
   rw [decide_eq_false hneg]
   rw [← e1,← e2]
   refine eN [0,2,1,3,4] qK ?_
   refine a7 1 2 qK qK qK ?_ ?_
   ·refine cB [0,1,2,3,4] qK qK ?_
    refine aD (d:=zd (x/y)) 1 rfl hq2 rfl (aN _ _) fun t1=>?_
    refine aD (d:=zd (x%y)) 0 rfl hr2 rfl (aN _ _) fun t2=>?_
    refine aF (d:=zd (x/y)) 3 rfl ho rfl qK ?_ ?_; exact aB qM
    refine aF (d:=zd (x%y)) 2 rfl ho2 rfl qK ?_ ?_; exact aB qM
    refine aD (d:=zd (x/y)) 3 rfl ho rfl (aN _ _) fun r1=>?_
    refine aD (d:=zd (x%y)) 2 rfl ho2 rfl (aN _ _) fun r2'=>?_
    exact fin ⟨rfl,r1,r2',rfl,rfl⟩ (dS (dS (dS (dS (dS (dS (aA (fs':=[(r1,zd (x/y)),(r2',zd (x%y))]) qS)))))))
   ·refine cB [0,2,1,3,4] qK qK ?_
    refine aD (d:=zd (x/y)) 1 rfl hq2 rfl (aN _ _) fun t1=>?_
    refine aF (d:=zd (x/y)) 3 rfl ho rfl qK ?_ ?_; exact aB qM
    refine aD (d:=zd (x%y)) 0 rfl hr2 rfl (aN _ _) fun t2=>?_
    refine aF (d:=zd (x%y)) 2 rfl ho2 rfl qK ?_ ?_; exact aB qM
    refine aD (d:=zd (x/y)) 3 rfl ho rfl (aN _ _) fun r1=>?_
    refine aD (d:=zd (x%y)) 2 rfl ho2 rfl (aN _ _) fun r2'=>?_
    exact fin ⟨rfl,r1,r2',rfl,rfl⟩ (dS (dS (dS (dS (dS (dS (aA (fs':=[(r1,zd (x/y)),(r2',zd (x%y))]) qS)))))))
theorem rDivModJZ (v w:Value) (x:Bool×List Nat) (y:Int) (e:Nat) (hx:Lim x.2) (lx:x.2.length≤34359738368) (hy:sz y e) (he:e≤34359738368) (h0:y≠0) :
  Meets Tryz.prog 37 [v,w] [(v,J x),(w,zd y)] (fun r os fs=>os=[]∧∃ q m,r=.tuple #[q,m,.bool true]∧fs=[(q,zd (jv x/y)),(m,zd (jv x%y))]):=by
 have h:=rZDivMod_meets v w x.1 (decide (y<0)) x.2 (bQ y.natAbs) hx (aY _) lx (Nat.le_trans hy.len he) (by rw [jT]; exact h0)
 rw [jT] at h
 exact h
theorem rDivModZ (v w:Value) (x y:Int) (e:Nat) (hx:sz x e) (hy:sz y e) (he:e≤34359738368) (h0:y≠0) :
  Meets Tryz.prog 37 [v,w] [(v,zd x),(w,zd y)] (fun r os fs=>os=[]∧∃ q m,r=.tuple #[q,m,.bool true]∧fs=[(q,zd (x/y)),(m,zd (x%y))]):=by
 have h:=rDivModJZ v w (cn x) y e (aY _) (Nat.le_trans hx.len he) hy he h0
 rw [eG] at h
 exact h
theorem eS {x:Int} (h:x<0):x.sign = -1:=Int.sign_eq_neg_one_of_neg h
theorem eR {x:Int} (h:0<x):x.sign=1:=Int.sign_eq_one_of_pos h
theorem cmp_val (x y:Int):(x.sign<y.sign→(x - y).sign = -1)∧(y.sign<x.sign→(x - y).sign=1)∧(x.sign=y.sign→x.sign*oU x.natAbs y.natAbs=(x - y).sign):=by
 rcases Int.lt_trichotomy x 0 with hx | hx | hx <;> rcases Int.lt_trichotomy y 0 with hy | hy | hy
 ·rw [eS hx,eS hy]
  refine ⟨fun h=>by omega,fun h=>by omega,fun _=>?_⟩
  unfold oU
  by_cases h1:x.natAbs<y.natAbs
  ·rw [if_pos h1,eR (show 0<x - y by omega)]; rfl
  ·rw [if_neg h1]
   by_cases h2:y.natAbs<x.natAbs
   ·rw [if_pos h2,eS (show x - y<0 by omega)]; rfl
   ·rw [if_neg h2,show x - y=0 by omega]; rfl
 ·rw [eS hx,hy]; exact ⟨fun _=>eS qN,fun h=>by simp at h,fun h=>by simp at h⟩
 ·rw [eS hx,eR hy]; exact ⟨fun _=>eS qN,fun h=>by omega,fun h=>by omega⟩
 ·rw [hx,eS hy]; exact ⟨fun h=>by simp at h,fun _=>eR qN,fun h=>by simp at h⟩
 ·rw [hx,hy]; exact ⟨fun h=>by omega,fun h=>by omega,fun _=>by simp⟩
 ·rw [hx,eR hy]; exact ⟨fun _=>eS qN,fun h=>by simp at h,fun h=>by simp at h⟩
 ·rw [eR hx,eS hy]; exact ⟨fun h=>by omega,fun _=>eR qN,fun h=>by omega⟩
 ·rw [eR hx,hy]; exact ⟨fun h=>by simp at h,fun _=>eR qN,fun h=>by simp at h⟩
 ·rw [eR hx,eR hy]
  refine ⟨fun h=>by omega,fun h=>by omega,fun _=>?_⟩
  unfold oU
  by_cases h1:x.natAbs<y.natAbs
  ·rw [if_pos h1,eS (show x - y<0 by omega)]; rfl
  ·rw [if_neg h1]
   by_cases h2:y.natAbs<x.natAbs
   ·rw [if_pos h2,eR (show 0<x - y by omega)]; rfl
   ·rw [if_neg h2,show x - y=0 by omega]; rfl
theorem zCmpS (v w:Value) (x y:Bool×List Nat) (ha:Lim x.2) (hb:Lim y.2) (la:x.2.length≤137438953472) (lb:y.2.length≤137438953472) :
  Meets Tryz.prog 95 [v,w] [(v,J x),(w,J y)] (fun r os fs=>os=[]∧fs=[]∧r=.int .i64 (jv x - jv y).sign):=by
 obtain ⟨s,a⟩:=x
 obtain ⟨t,b⟩:=y
 have hc:=tM (nv a) (nv b)
 have hx:(iv s a).natAbs=nv a:=nS s a
 have hy:(iv t b).natAbs=nv b:=nS t b
 obtain ⟨k1,k2,k3⟩:=cmp_val (iv s a) (iv t b)
 rw [hx,hy] at k3
 have hsg:∀ x:Int, -1≤x.sign∧x.sign≤1:=fun x=>by
  rcases Int.lt_trichotomy x 0 with h | h | h
  ·rw [Int.sign_eq_neg_one_of_neg h]; omega
  ·rw [h]; simp
  ·rw [Int.sign_eq_one_of_pos h]; omega
 have h1:=hsg (iv s a)
 have h2:=hsg (iv t b)
 have hp : -1≤(iv s a).sign*oU (nv a) (nv b)∧(iv s a).sign*oU (nv a) (nv b)≤1:=by
  have:(iv s a).sign = -1∨(iv s a).sign=0∨(iv s a).sign=1:=by omega
  rcases this with h | h | h <;> rw [h] <;> omega
 show Meets Tryz.prog 95 [v,w] [(v,I s a),(w,I t b)] (fun r os fs=>os=[]∧fs=[]∧r=.int .i64 (iv s a - iv t b).sign)
 refine mV Tryz.func95 ?_
 refine bC (aB (d:=I s a) qM) fun p hp'=>?_
 refine bC (aB (d:=I t b) qM) fun q hq'=>?_
 refine a0 [0,2,1,3,4,5] [0,1,2,3,4,5] qK qK ?_
 refine aD (d:=I s a) 1 rfl hp' rfl (aN _ _) fun y1=>?_
 refine aD (d:=I t b) 0 rfl hq' rfl (aN _ _) fun y2=>?_
 refine cH (dH y1 s a ha la) ?_
 refine cH (dH y2 t b hb lb) ?_
 refine aE _ rfl (fun hlt=>?_) (fun hlt=>?_)
 ·rw [k1 hlt]
  exact fin ⟨rfl,rfl,rfl⟩ (dS (dS (aL _ _)))
 ·refine aE _ rfl (fun hgt=>?_) (fun hgt=>?_)
  ·rw [k2 qN]
   exact fin ⟨rfl,rfl,rfl⟩ (dS (dS (aL _ _)))
  ·rw [← k3 qN]
   refine aP 1 rfl hp' ?_
   refine aQ 1 rfl (aS (aJ _)) (cU _) fun u1=>?_
   refine aP 0 rfl hq' ?_
   refine aQ 0 rfl (aS (aJ _)) (cU _) fun u2=>?_
   refine cH (oT u1 u2 a b ha hb) ?_
   refine ar rfl qI ?_
   exact fin ⟨rfl,rfl,rfl⟩ (dS (dS (aL _ _)))
theorem zShr1 (v:Value) (s:Bool) (a:List Nat) (ha:Lim a) (la:a.length≤137438953472) :
  Meets Tryz.prog 150 [v,.int .i64 1] [(v,I s a)] (fun r os fs=>os=[]∧fs=[(r,zd (iv s a/2))]):=by
 have hf:far 1=1:=by decide
 have h1:=fun u=>shr_meets u a 1 ha qN
 rw [hf] at h1
 have hll:(bQ (nv a/2^1)).length≤a.length:=by
  refine cE ?_
  exact Nat.lt_of_le_of_lt (Nat.div_le_self _ _) (iD ha)
 have h2:=fun u=>q9 u (bQ (nv a/2^1)) 1 (aY _) qN
 rw [hf,bY] at h2
 have hll2:(bQ (nv a/2^1*2^1)).length≤a.length:=by
  refine cE ?_
  exact Nat.lt_of_le_of_lt (Nat.div_mul_le_self _ _) (iD ha)
 have h3:=fun u u'=>oT u u' (bQ (nv a/2^1*2^1)) a (aY _) ha
 rw [bY] at h3
 have hc:=tM (nv a/2^1*2^1) (nv a)
 have h4:=fun u u'=>xY u u' (bQ (nv a/2^1)) [1] (aY _) (fun x hx=>by rw [List.mem_singleton.1 hx]; decide) qN qE
 rw [bY,show nv [1]=1 from rfl] at h4
 rw [Nat.pow_one] at *
 refine mV Tryz.func150 ?_
 refine bC (aB (d:=I s a) qM) fun p hp=>?_
 refine aH (d:=I false []) fun o ho=>?_
 refine aP 1 rfl hp ?_
 refine aQ 1 rfl (aS (aJ _)) (cU _) fun u1=>?_
 refine cG (h1 u1) fun m1=>?_
 refine a0 [0,1,2,3,4,6,7,5,8,9,10] [0,1,2,3,4,5,6,7,8,9,10] qK qK ?_
 refine aP 1 rfl hp ?_
 refine aG 1 rfl (aZ (aJ _)) ?_
 cases s with
 | false =>
  refine aP 1 rfl hp ?_
  refine aG 1 rfl (aZ (aJ _)) ?_
  refine cG (fC m1 false (nv a/2) (iv false a/2) (by simp [iv])) fun z=>?_
  refine aF (d:=zd (iv false a/2)) 0 rfl ho rfl qK (aB (v:=z) qM) ?_
  refine aD (d:=zd (iv false a/2)) 0 rfl ho rfl (aN _ _) fun r=>?_
  exact fin ⟨rfl,rfl⟩ (dS (dS (aA (fs':=[(r,zd (iv false a/2))]) qS)))
 | true =>
  refine aP 1 rfl hp ?_
  refine aQ 1 rfl (aS (aJ _)) (cU _) fun u2=>?_
  refine cG (h2 m1) fun m2=>?_
  refine cH (h3 m2 u2) ?_
  refine aE _ rfl (fun hne=>?_) (fun hne=>?_)
  ·have hodd:nv a/2*2≠nv a:=fun e=>hne (hc.2.2.2 e)
   refine mU 1 rfl fun q1=>?_
   refine cG (h4 m1 q1) fun m3=>?_
   refine aP 1 rfl hp ?_
   refine aG 1 rfl (aZ (aJ _)) ?_
   refine cG (fC m3 true (nv a/2+1) (iv true a/2) (by simp [iv]; omega)) fun z=>?_
   refine aF (d:=zd (iv true a/2)) 0 rfl ho rfl qK (aB (v:=z) qM) ?_
   refine aD (d:=zd (iv true a/2)) 0 rfl ho rfl (aN _ _) fun r=>?_
   exact fin ⟨rfl,rfl⟩ (dS (dS (aA (fs':=[(r,zd (iv true a/2))]) qS)))
  ·have hev:nv a/2*2=nv a:=hc.2.2.1 qN
   refine aP 1 rfl hp ?_
   refine aG 1 rfl (aZ (aJ _)) ?_
   refine cG (fC m1 true (nv a/2) (iv true a/2) (by simp [iv]; omega)) fun z=>?_
   refine aF (d:=zd (iv true a/2)) 0 rfl ho rfl qK (aB (v:=z) qM) ?_
   refine aD (d:=zd (iv true a/2)) 0 rfl ho rfl (aN _ _) fun r=>?_
   exact fin ⟨rfl,rfl⟩ (dS (dS (aA (fs':=[(r,zd (iv true a/2))]) qS)))
theorem oC (v w:Value) (p:Row) (x:Bool×List Nat) (k a:Nat) (hp:Fit k p) (hxl:Lim x.2) (hxa:x.2.length≤a) (hk:k+(p.length+1)*(a+1)≤137438953472) (lp:p.length≤1073741824) :
  Meets Tryz.prog 112 [v,w] [(v,V p),(w,J x)] (fun r os fs=>os=[]∧fs=[]∧r=.int .i64 (pev (vv p) (jv x)).sign):=by
 have hsz:sz (pev (vv p) (jv x)) 137438953472:=(xI hp.szR (fZ hxl hxa)).mono (by rw [cP]; rw [Nat.add_mul] at hk; omega)
 refine mV Tryz.func112 ?_
 refine bC (aB (d:=J x) qM) fun q hq=>?_
 refine aD (d:=J x) 0 rfl hq rfl (a8 _) fun y=>?_
 refine cG (pValueJ v y p x k a hp hxl hxa hk lp) fun z=>?_
 refine cH (zSignZ z _ _ hsz (Nat.le_refl _)) ?_
 exact fin ⟨rfl,rfl,rfl⟩ (dS (aL _ _))
theorem sgn_mul {s t:Int}:(s.sign≠0∧s.sign = -t.sign)↔s*t<0:=by
 rcases Int.lt_trichotomy s 0 with h | h | h <;> rcases Int.lt_trichotomy t 0 with g | g | g
 ·rw [eS h,eS g]; have:=Int.mul_pos_of_neg_of_neg h g; omega
 ·rw [g]; simp [eS h]
 ·rw [eS h,eR g]; have:=Int.mul_neg_of_neg_of_pos h g; omega
 ·rw [h]; simp
 ·rw [h]; simp
 ·rw [h]; simp
 ·rw [eR h,eS g]; have:=Int.mul_neg_of_pos_of_neg h g; omega
 ·rw [g]; simp [eR h]
 ·rw [eR h,eR g]; have:=Int.mul_pos h g; omega
theorem turns_meets (v w:Value) (m:List Row) (x:Bool×List Nat) (k a n:Nat) (hm:∀ r,r∈m→Fit k r∧r.length≤n) (hxl:Lim x.2) (hxa:x.2.length≤a) (hk:k+(n+1)*(a+1)≤137438953472) (ln:n≤1073741824) (lm:m.length≤1073741824) :
  Meets Tryz.prog 148 [v,w] [(v,W m),(w,J x)] (fun r os fs=>os=[]∧fs=[]∧r=.int .i64 (vs 0 (m.map fun r=>pev (vv r) (jv x)):Nat)):=by
 refine mV Tryz.func148 ?_
 refine bC (aB (d:=J x) qM) fun q hq=>?_
 refine aO (v:=v) qM fun _=>?_
 refine aT (X:=Nat×Nat×Int) (fun y=>([(3,q),(5,.int .i64 (y.2.1:Nat)),(6,.int .i64 y.2.2.sign),(10,v),(11,.int .i64 (m.length:Nat)),(12,.int .i64 (y.1:Nat))],[bK q 2 1 (fun _=>J x)],[(v,W m)]))
  (fun y=>y.1≤m.length∧y.2.1≤y.1∧y.2.1+vs y.2.2 ((m.drop y.1).map fun r=>pev (vv r) (jv x))=vs 0 (m.map fun r=>pev (vv r) (jv x))) (fun y=>m.length - y.1) rfl ?_ ?_
 ·exact aU (0,0,0) ⟨Nat.zero_le _,Nat.le_refl _,by simp only [List.drop_zero]; omega⟩ trivial qF (aC (bB rfl) (aA qS))
 rintro ⟨i,c,t⟩ ⟨hi,hc,he⟩
 simp only at hi hc he ⊢
 refine aE _ rfl (fun hlt=>?_) (fun hlt=>?_)
 ·have hin:i<m.length:=by omega
  have hmem:m.getD i []∈m:=cR [] hin
  obtain ⟨g1,g2⟩:=hm _ hmem
  have hstep:vs t ((m.drop i).map fun r=>pev (vv r) (jv x))=if pev (vv (m.getD i [])) (jv x)=0 then vs t ((m.drop (i+1)).map fun r=>pev (vv r) (jv x)) else (if pev (vv (m.getD i [])) (jv x)*t<0 then 1 else 0)+vs (pev (vv (m.getD i [])) (jv x)) ((m.drop (i+1)).map fun r=>pev (vv r) (jv x)):=by
   rw [List.drop_eq_getElem_cons hin,List.map_cons]
   have:m[i]=m.getD i []:=by rw [gE,List.getElem?_eq_getElem hin]; rfl
   rw [this]; rfl
  rw [hstep] at he
  have hmul:(m.getD i []).length*(a+1)≤n*(a+1):=Nat.mul_le_mul_right _ g2
  have hsg:=fun u u'=>oC u u' (m.getD i []) x k a g1 hxl hxa (by have e1:=Nat.add_one_mul n (a+1); have e2:=Nat.add_one_mul (m.getD i []).length (a+1); omega) qN
  generalize hy:pev (vv (m.getD i [])) (jv x)=y at *
  have hsb:y.sign = -1∨y.sign=0∨y.sign=1:=by
   rcases Int.lt_trichotomy y 0 with h | h | h
   ·rw [eS h]; omega
   ·rw [h]; simp
   ·rw [eR h]; omega
  have htb:t.sign = -1∨t.sign=0∨t.sign=1:=by
   rcases Int.lt_trichotomy t 0 with h | h | h
   ·rw [eS h]; omega
   ·rw [h]; simp
   ·rw [eR h]; omega
  refine aK (v:=v) qM i rfl qN fun a1=>?_
  refine aM (d:=V (m.getD i [])) qM (jL _) fun a2=>?_
  refine aD (d:=J x) 0 rfl hq rfl (a8 _) fun y1=>?_
  refine cH (hsg a2 y1) ?_
  refine aE _ rfl (fun h0=>?_) (fun h0=>?_)
  ·have hy0:y≠0:=fun e=>h0 (by rw [e]; rfl)
   rw [if_neg hy0] at he
   refine un_neg (m := -t.sign) (by rw [cL (show inK .i64 (0 - t.sign) from ⟨by omega,by omega⟩)]; omega) ?_
   refine aE _ rfl (fun h1=>?_) (fun h1=>?_)
   ·have hneg:y*t<0:=sgn_mul.1 ⟨h0,h1⟩
    rw [if_pos hneg] at he
    refine ar rfl qI ?_
    refine cJ rfl h0 ?_
    refine ar rfl qI ?_
    exact aU (i+1,c+1,y) ⟨by simp only; omega,by simp only; omega,by simp only; omega⟩ (by simp only; omega) qF (aA (fs':=[(v,W m)]) qS)
   ·have hneg:¬ y*t<0:=fun h=>h1 (sgn_mul.2 h).2
    rw [if_neg hneg] at he
    refine cJ rfl h0 ?_
    refine ar rfl qI ?_
    exact aU (i+1,c,y) ⟨by simp only; omega,by simp only; omega,by simp only; omega⟩ (by simp only; omega) qF (aA (fs':=[(v,W m)]) qS)
  ·have hy0:y=0:=Int.sign_eq_zero_iff_zero.1 qN
   rw [if_pos hy0] at he
   refine bR rfl h0 ?_
   refine ar rfl qI ?_
   exact aU (i+1,c,t) ⟨by simp only; omega,by simp only; omega,by simp only; omega⟩ (by simp only; omega) qF (aA (fs':=[(v,W m)]) qS)
 ·have hin:i=m.length:=by omega
  subst hin
  rw [List.drop_length] at he
  have he':c=vs 0 (m.map fun r=>pev (vv r) (jv x)):=by simpa [vs] using he
  rw [← he']
  exact fin ⟨rfl,rfl,rfl⟩ (dS (aL _ _))
theorem deg_dg (l:List Int):deg l=(dg l:Int) - 1:=by
 have h1:=r9 l l.length (dg l) (dI l) fun j h _=>jU.1 (Nat.le_refl _) j h
 unfold deg
 rw [h1]
 by_cases h0:dg l=0
 ·rw [h0]; rfl
 ·have h2:=oN (l:=l) qN
  unfold ld at h2
  obtain ⟨m,hm⟩:∃ m,dg l=m+1:=⟨dg l - 1,by omega⟩
  rw [hm] at h2 ⊢
  simp only [tJ,Nat.add_sub_cancel] at h2 ⊢
  rw [if_neg h2]; omega
theorem tU (v:Value) (p:Row) (hp:Fit 137438953472 p) (lp:p.length≤536870912) :
  Meets Tryz.prog 133 [v] [(v,V p)] (fun r os fs=>os=[]∧fs=[(r,vd (nrm (vv p)))]):=by
 have hd:=rC v p (hp.mono qE)
 rw [deg_dg] at hd
 have hdl:dg (vv p)≤p.length:=Nat.le_trans (dI _) (by rw [cP]; exact Nat.le_refl _)
 have hfin:lst (dg (vv p)) (fun i=>(vv p).getD i 0)=nrm (vv p):=eX 0 (by rw [dF]; rfl) fun j hj=>by
  rw [dF] at hj
  rw [mK hj,gM]
 have hat:∀ i:Nat,Meets Tryz.prog 109 [v,.int .i64 (i:Nat)] [(v,V p)] (fun r os fs=>os=[]∧fs=[(r,zd ((vv p).getD i 0))]):=fun i=>by
  have:=rAt_meets v p (i:Nat) (hp.mono qE)
  rw [if_neg qN,Int.toNat_natCast] at this
  exact this
 generalize hn:dg (vv p)=n at *
 generalize hg:(fun i=>(vv p).getD i 0)=g at *
 have hat':∀ i:Nat,Meets Tryz.prog 109 [v,.int .i64 (i:Nat)] [(v,V p)] (fun r os fs=>os=[]∧fs=[(r,zd (g i))]):=fun i=>by rw [← hg]; exact hat i
 rw [← hfin]
 refine mV Tryz.func133 ?_
 refine cH hd ?_
 refine ar rfl qI ?_
 refine mM (size:=2) (e:=26) J z0 qE fun v0 hv0=>?_
 refine aT (X:=Value×Nat) (fun x=>([(0,v),(3,.int .i64 (n:Nat)),(4,x.1),(5,.int .i64 (x.2:Nat))],[i8 2 J z0 x.1 ((lst x.2 g).map cn)],[(v,V p)])) (fun x=>isSl x.1∧x.2≤n) (fun x=>n - x.2) rfl ?_ ?_
 ·exact aU (v0,0) ⟨hv0,Nat.zero_le _⟩ trivial qF (aA qS)
 ·rintro ⟨vo,i⟩ ⟨hvo,h2⟩
  simp only at hvo h2 ⊢
  refine aE _ rfl (fun hlt=>?_) (fun hlt=>?_)
  ·have hll:(lst i g).length=i:=dF _ _
   refine cG (hat' i) fun y1=>?_
   refine jN (size:=2) (f:=J) (z:=z0) (e:=26) (cn (g i)) qE (aB qM) rfl fun y4=>?_
   refine eC (size:=2) (e:=26) (f:=J) (z:=z0) (l:=(lst i g).map cn) (m:=[cn (g i)]) 0 rfl hvo (a9 qM) (by simp only [List.length_map,hll,List.length_cons,List.length_nil]; omega) (by simp only [List.length_map,hll,List.length_cons,List.length_nil]; omega) fun vn hvn=>?_
   refine ar rfl qI ?_
   refine aU (vn,i+1) ⟨hvn,by simp only; omega⟩ (by simp only; omega) qF ?_
   rw [show (lst i g).map cn++[cn (g i)]=(lst (i+1) g).map cn by rw [pA,List.map_append]; rfl]
   exact aA qS
  ·have hii:i=n:=by omega
   subst hii
   exact fin ⟨rfl,rfl⟩ (aC (dC hvo) (aA qS))
theorem rNormT (v:Value) (l:List Int) (hl:szR 137438953472 l) (ll:l.length≤536870912) :
  Meets Tryz.prog 133 [v] [(v,vd l)] (fun r os fs=>os=[]∧fs=[(r,vd (nrm l))]):=by
 have h:=tU v (l.map cn) hl.fit (by rw [List.length_map]; exact ll)
 rw [fH] at h
 exact h
theorem rAtN (v:Value) (p:Row) (hp:Fit 1099511627776 p) (i:Nat):Meets Tryz.prog 109 [v,.int .i64 (i:Nat)] [(v,V p)] (fun r os fs=>os=[]∧fs=[(r,zd ((vv p).getD i 0))]):=by
 have:=rAt_meets v p (i:Nat) hp
 rw [if_neg qN,Int.toNat_natCast] at this
 exact this
theorem rPAdd_meets (v w:Value) (p q:Row) (k:Nat) (hp:Fit k p) (hq:Fit k q) (hk:k+1≤137438953472) (lp:p.length≤536870912) (lq:q.length≤536870912) :
  Meets Tryz.prog 105 [v,w] [(v,V p),(w,V q)] (fun r os fs=>os=[]∧fs=[(r,vd (padd (vv p) (vv q)))]):=by
 have a1:=rAtN v p (hp.mono qN)
 have a2:=rAtN w q (hq.mono qN)
 have hsz:szR (k+1) (lst (max p.length q.length) fun i=>(vv p).getD i 0+(vv q).getD i 0):=szR.lst fun i _=>by
  have:=kT (hp.szR.get i) ((hq.szR.get i).neg)
  rwa [Int.sub_neg] at this
 have hn:=fun u=>rNormT u (lst (max p.length q.length) fun i=>(vv p).getD i 0+(vv q).getD i 0) (hsz.mono hk) (by rw [dF]; omega)
 have hdef:padd (vv p) (vv q)=nrm (lst (max p.length q.length) fun i=>(vv p).getD i 0+(vv q).getD i 0):=by unfold padd; rw [cP,cP]
 have had:=fun u u' i=>rAddZ u u' ((vv p).getD i 0) ((vv q).getD i 0) k (hp.szR.get i) (hq.szR.get i) qN
 rw [hdef]
 generalize hg:(fun i=>(vv p).getD i 0+(vv q).getD i 0)=g at *
 have had':∀ u u' i,Meets Tryz.prog 36 [u,u'] [(u,zd ((vv p).getD i 0)),(u',zd ((vv q).getD i 0))] (fun r os fs=>os=[]∧fs=[(r,zd (g i))]):=fun u u' i=>by
  rw [← hg]; exact had u u' i
 generalize hm:max p.length q.length=m at *
 refine mV Tryz.func105 ?_
 refine mM (size:=2) (e:=26) J z0 qE fun v0 hv0=>?_
 refine aT (X:=Value×Nat) (fun x=>([(0,v),(1,w),(5,x.1),(6,.int .i64 (x.2:Nat))],[i8 2 J z0 x.1 ((lst x.2 g).map cn)],[(v,V p),(w,V q)])) (fun x=>isSl x.1∧x.2≤m) (fun x=>m - x.2) rfl ?_ ?_
 ·exact aU (v0,0) ⟨hv0,Nat.zero_le _⟩ trivial qF (aA qS)
 ·rintro ⟨vo,i⟩ ⟨hvo,h2⟩
  simp only at hvo h2 ⊢
  refine aO qM fun _=>?_
  refine aO qM fun _=>?_
  refine gS ?_
  refine aE _ rfl (fun hlt=>?_) (fun hlt=>?_)
  ·have hin:i<m:=by omega
   have hll:(lst i g).length=i:=dF _ _
   refine cG (a1 i) fun y1=>?_
   refine cG (a2 i) fun y2=>?_
   refine cG (had' y1 y2 i) fun y3=>?_
   refine jN (size:=2) (f:=J) (z:=z0) (e:=26) (cn (g i)) qE (aB qM) rfl fun y4=>?_
   refine eC (size:=2) (e:=26) (f:=J) (z:=z0) (l:=(lst i g).map cn) (m:=[cn (g i)]) 0 rfl hvo (a9 qM) (by simp only [List.length_map,hll,List.length_cons,List.length_nil]; omega) (by simp only [List.length_map,hll,List.length_cons,List.length_nil]; omega) fun vn hvn=>?_
   refine ar rfl qI ?_
   refine aU (vn,i+1) ⟨hvn,by simp only; omega⟩ (by simp only; omega) qF ?_
   rw [show (lst i g).map cn++[cn (g i)]=(lst (i+1) g).map cn by rw [pA,List.map_append]; rfl]
   exact aA qS
  ·have hii:i=m:=by omega
   subst hii
   refine c8 (hn vo) (dC hvo) qS ?_
   rintro r _ _ ⟨rfl,rfl⟩
   exact fin ⟨rfl,rfl⟩ (aA qS)
theorem uU (v:Value) (p:Row) (hp:Fit 1099511627776 p) :
  Meets Tryz.prog 29 [v] [(v,V p)] (fun r os fs=>os=[]∧fs=[]∧r=.int .i64 ((dg (vv p):Nat) - 1:Int)):=by
 have:=rC v p hp
 rw [deg_dg] at this; exact this
theorem rMulZZ' (v w:Value) (x y:Int) (e:Nat) (hx:sz x e) (hy:sz y e) (he:e≤137438953472) :
  Meets Tryz.prog 41 [v,w] [(v,zd x),(w,zd y)] (fun r os fs=>os=[]∧fs=[(r,zd (x*y))]):=by
 have h:=rMulZJ v w x (cn y) e hx he (aY _) (Nat.le_trans hy.len he)
 rw [eG] at h
 exact h
theorem Seals.madeR' {v:Value} {vs:Nat→Value} {m:List Row} {n:Nat} {os:List Own} {fs:List bI} (hn:m.length=n) (hv:isSl v) (hs:∀ i,i<n→isSl (vs i)) :
  Seals (pT vs m::l5 v n vs::os) fs os ((v,W m)::fs):=by subst hn; exact Seals.madeR hv hs
theorem kernel_det {n:Nat} {A:Mx} {u:Nat→Int} {i:Nat} (hi:i<n) (hu:u i≠0) (h:∀ j,j<n→cN (fun i=>u i*A i j) n=0):det n A=0:=by
 obtain ⟨n,rfl⟩:∃ m,n=m+1:=⟨n - 1,by omega⟩
 have h1:cN (fun j=>cN (fun k=>u k*A k j) (n+1)*adj n A j i) (n+1)=0:=eJ fun k hk=>by rw [h k hk]; simp
 rw [bN (g':=fun j=>cN (fun k=>u k*(A k j*adj n A j i)) (n+1)) fun j _=>by
  rw [← fU]; exact bN fun k _=>by grind,mX,
  bN (g':=fun k=>u k*(if k=i then det (n+1) A else 0)) fun k hk=>by rw [iM,← mul_adj A hk hi]; rfl,
  kC hi fun k _ hk=>by rw [if_neg hk]; simp,if_pos rfl] at h1
 rcases Int.mul_eq_zero.1 h1 with h2 | h2
 ·exact absurd h2 hu
 ·exact h2
theorem isum_rev (g:Nat→Int):∀ n,cN (fun k=>g (n - 1 - k)) n=cN g n
 | 0=>rfl
 | n+1=>by
  rw [j8]
  show g (n+1 - 1 - 0)+cN (fun k=>g (n+1 - 1 - (k+1))) n=cN g n+g n
  rw [bN (g':=fun k=>g (n - 1 - k)) fun k hk=>by congr 1; omega,isum_rev g n]
  simp only [Nat.add_sub_cancel,Nat.sub_zero]
  omega
theorem deg_dgM (l:List Int):deg l=(dg l:Int) - 1:=by
 have h1:=r9 l l.length (dg l) (dI l) fun j h _=>jU.1 (Nat.le_refl _) j h
 unfold deg
 rw [h1]
 by_cases h0:dg l=0
 ·rw [h0]; rfl
 ·have h2:=oN (l:=l) qN
  unfold ld at h2
  obtain ⟨m,hm⟩:∃ m,dg l=m+1:=⟨dg l - 1,by omega⟩
  rw [hm] at h2 ⊢
  simp only [tJ,Nat.add_sub_cancel] at h2 ⊢
  rw [if_neg h2]; omega
theorem uV (v:Value) (p:Row) (hp:Fit 137438953472 p) :
  Meets Tryz.prog 99 [v] [(v,V p)] (fun r os fs=>os=[]∧fs=[]∧r=.int .i64 ((dg (vv p):Nat) - 1:Int)):=by
 have:=rI v p hp
 rw [deg_dgM] at this; exact this
theorem oD {K:cC} {os:List Own} {fs:List bI} {v:Value} {l:List Int} {k:Nat} (hs:isSl v) (hn:Nm l) (hp:szR k l) (hk:k≤34359738368)
  (kk:K v (i8 2 J z0 v ((redc l).map cn)::os) fs):CallK Tryz.prog false (.func (.func 166) #[] #[]) [v] (i8 2 J z0 v (l.map cn)::os) fs K:=by
 have hml:(l.map cn).length=l.length:=List.length_map _
 have hgs:sz (cO l:Nat) k:=qH hp
 have hne:0<l.length→((cO l:Nat):Int)≠0:=fun h e=>by
  have h1:=eD.1 (show cO l=0 by omega)
  rw [eK hn] at h1; omega
 have hcv:∀ y,y<l.length→J ((l.map cn).getD y z0)=zd (if y<0 then l.getD y 0/(cO l:Int) else l.getD y 0):=fun y hy=>by rw [eZ hy,if_neg (Nat.not_lt_zero _)]; rfl
 have hce:∀ y,y<l.length→zd (if y<l.length then l.getD y 0/(cO l:Int) else l.getD y 0)=J (((redc l).map cn).getD y z0):=fun y hy=>by
  rw [if_pos hy,eZ (by rw [kB]; exact hy)]
  unfold redc
  rw [gE (l:=List.map _ _),List.getElem?_map,gE,List.getElem?_eq_getElem hy]; rfl
 refine fE Tryz.func166 qK rfl qK (Nat.le_of_ble_eq_true rfl) ?_
 refine uG 0 rfl hs hp qN fun x1=>?_
 refine aH (d:=I false []) fun c hc=>?_
 refine aF (d:=zd (cO l:Nat)) 0 rfl hc rfl qK (aB (v:=x1) (List.Mem.head _)) ?_
 refine dV 1 rfl hs fun _=>?_
 generalize ((cO l:Nat):Int)=g at *
 refine aT (X:=Nat) (fun i=>([(0,v),(3,c),(8,.int .i64 ((l.map cn).length:Nat)),(9,.int .i64 (i:Nat))],bK c 2 1 (fun _=>zd g)::bK v 2 l.length (fun y=>zd (if y<i then l.getD y 0/g else l.getD y 0))::os,fs)) (fun i=>i≤l.length) (fun i=>l.length - i) rfl ?_ ?_
 ·exact aU 0 (Nat.zero_le _) trivial qF (aC (bB rfl) (aC (Seals.own_cong (os:=bK c 2 1 (fun _=>zd g)::i8 2 J z0 v (l.map cn)::os) 1 (n':=l.length) (fun y=>zd (if y<0 then l.getD y 0/g else l.getD y 0)) rfl hml fun y hy=>hcv y (by rw [hml] at hy; exact hy)) (aA fun F hF=>List.Mem.tail _ hF)))
 rintro i hi
 refine aE _ rfl (fun hlt=>?_) (fun hlt=>?_)
 ·have hin:i<l.length:=by omega
  have hai:=hp.get i
  have hg0:=hne qN
  refine eN [0,1,2,3,4,5,6,7,8,9,12,13,10,11] qK ?_
  refine cB [0,1,2,3,4,5,6,7,8,9,10,11,12,13] qK qK ?_
  refine aI 1 rfl hs i rfl qN ?_
  refine bL (d:=zd (l.getD i 0)) 1 rfl i qN (by rw [if_neg qN]) (aN _ _) fun y1=>?_
  refine aD (d:=zd g) 0 rfl hc rfl (aN _ _) fun y2=>?_
  refine cF (gZ y1 y2 _ _ _ _ hai hgs qN qN hg0) ?_
  rintro _ _ _ ⟨rfl,y3,y4,rfl,rfl⟩
  refine aI 1 rfl hs i rfl qN ?_
  refine c9 (bP (d:=zd (l.getD i 0/g)) 1 rfl i qN rfl qK (aB qM) ⟨_,_,Seals.own_cong (os:=bK c 2 1 (fun _=>zd g)::_::os) 1 (fun y=>zd (if y<i+1 then l.getD y 0/g else l.getD y 0)) rfl rfl (fun y _=>div_s l g i y),?_⟩)
  refine ar rfl qI ?_
  exact aU (i+1) qN (by simp only; omega) qF (aC (bB rfl) (aA qD))
 ·have hin:i=l.length:=by omega
  subst hin
  exact fin kk (dS (Seals.own_cong (os:=bK v 2 l.length _::os) 0 (n':=((redc l).map cn).length) (fun y=>J (((redc l).map cn).getD y z0)) rfl (by rw [List.length_map,kB]) fun y hy=>hce y hy))
theorem uY {α β:Type} (f:α→β) (l:List α) (a:α):l.map f++[f a]=(l++[a]).map f:=by rw [List.map_append]; rfl
theorem szR.redc {k:Nat} {l:List Int} (h:szR k l):szR k (redc l):=fun x hx=>by
 unfold Go.Proofs.YtjebljkoiaojaaaGreat.redc at hx
 obtain ⟨y,hy,rfl⟩:=List.mem_map.1 hx
 exact pL (h y hy)
theorem pDegreeL (v:Value) (l:List Int) (k:Nat) (h:szR k l) (hk:k≤137438953472) :
  Meets Tryz.prog 99 [v] [(v,vd l)] (fun r os fs=>os=[]∧fs=[]∧r=.int .i64 ((dg l:Nat) - 1:Int)):=by
 have:=uV v (l.map cn) (h.fit.mono hk)
 rw [fH] at this; exact this
structure ChS where
 lv:Value
 nv:Value
 ls:List (List Int)
 nx:List Int
 e:Nat
def chK (k n:Nat):Nat:=ge (dvk k n+1) n n
def SimOk (P:List Int) (K n:Nat):Prop:=∀ s,nM P s→∃ e,szR e s∧s.length≤n∧ge (e+1) n n≤K
theorem chain_meets (v:Value) (p:Row) (k N K n:Nat) (hp:Fit k p) (lp:p.length≤N) (hN:N≤1048576) (hd0:0<dg (vv p)) (hk:ge (k+1) (N - 1) N+(k+1)≤137438953472) (hd:k+(N+1)*(dvk (k+1) N+1)≤137438953472)
  (hss:SimOk (vv p) K n) (hnN:n≤N) (hK:K*(n+2)≤34359738368) :
  Meets Tryz.prog 146 [v] [(v,V p)] (fun r os fs=>os=[]∧∃ s ls,nM (vv p) s∧CH s ls []∧(∀ l,l∈ls→szR K l∧l.length≤N)∧fs=[(r,wd ls)]):=by
 have hml:∀ l:List Int,(l.map cn).length=l.length:=fun l=>List.length_map _
 have hK2:K*2≤K*(n+2):=Nat.mul_le_mul_left _ qN
 refine mV Tryz.func146 ?_
 refine cF (pSimpleN_meets v p k N hp lp qN hk hd) ?_
 rintro x1 _ _ ⟨rfl,s,hs,_,rfl⟩
 obtain ⟨e0,zs,hsm,hKe⟩:=hss s hs
 have hn:n≤1048576:=by omega
 have hge:e0+1+1≤K:=by
  refine Nat.le_trans ?_ hKe
  unfold ge
  exact Nat.le_mul_of_pos_right _ (Nat.mul_pos (Nat.pow_pos qE) (Nat.pow_pos qE))
 obtain ⟨gg,hg1,hg2⟩:=hs.ok hd0
 have hsd:0<dg s∧dg s≤dg (pprim (vv p)):=Dv.deg (a:=s) (b:=pprim (vv p)) ⟨gg,fun x=>by rw [hg2]; exact Int.mul_comm _ _⟩ (by rw [dO]; exact hd0)
 rw [dO] at hsd
 have hsl:s.length=dg s:=(eK hs.sn).symm
 have hs0:s≠[]:=List.length_pos_iff.1 qN
 refine eY (size:=1) (n:=1) [x1] [V (s.map cn)] rfl rfl qE qE ⟨aB qM,rfl,trivial⟩ fun l0 hl0=>?_
 refine aI 0 rfl hl0 0 rfl qE ?_
 refine bL (d:=V (s.map cn)) 0 rfl 0 qE rfl (jL _) fun y1=>?_
 refine cG (pDeriveT y1 s (e0) zs qN qN) fun n0=>?_
 refine aT (X:=ChS) (fun x=>([(3,x.lv),(4,x.nv)],[i8 1 V [] x.lv (x.ls.map fun l=>l.map cn)],[(x.nv,vd x.nx)]))
  (fun x=>isSl x.lv∧CH s x.ls x.nx∧(∀ l,l∈x.ls→szR (K) l∧l.length≤n)∧szR x.e (chF x.ls x.nx (x.ls.length - 1))∧szR x.e x.nx∧x.nx.length≤n∧e0+1≤x.e∧x.e+1≤ge (e0+1) x.ls.length (dg s - dg (chF x.ls x.nx (x.ls.length - 1)))) (fun x=>x.nx.length) rfl ?_ ?_
 ·refine aU ⟨l0,n0,[s],pder s,e0+1⟩ ⟨hl0,CH.start hs.sn hs0,fun l hl=>?_,zs.mono (Nat.le_succ _),zs.pder qN,?_,Nat.le_refl _,?_⟩ trivial qF (aC (Seals.own_cong (os:=[_]) 0 (n':=1) (fun i=>V (([s].map fun l=>l.map cn).getD i [])) rfl rfl fun i hi=>?_) (aA qS))
  ·rw [List.mem_singleton.1 hl]; exact ⟨zs.mono qN,by omega⟩
  ·have:=pder_len s; show (pder s).length≤n; omega
  ·show e0+1+1≤ge (e0+1) 1 _
   unfold ge
   exact Nat.le_mul_of_pos_right _ (Nat.mul_pos (Nat.pow_pos qE) (Nat.pow_pos qE))
  ·have:i=0:=by omega
   subst this; rfl
 rintro ⟨lv,nv,ls,nx,e⟩ ⟨hlv,hc,hall,za,zb,lb,he1,he⟩
 simp only at hlv hc hall za zb lb he1 he ⊢
 have hln:=hc.len
 have hsh:=hc.short (ls.length - 1) qN
 have hsh2:=hc.short ls.length (Nat.le_refl _)
 have hlow:=hc.low (ls.length - 1) qN
 rw [show ls.length - 1+1=ls.length by omega] at hlow
 have hlast:=nI ls nx
 rw [hlast] at hlow hsh2
 have han:=hc.nm (ls.length - 1) qN
 have hbn:=hc.nm ls.length (Nat.le_refl _)
 rw [hlast] at hbn
 have hapos:=hc.pos (ls.length - 1) qN
 have hag:ls.getD (ls.length - 1) []=chF ls nx (ls.length - 1):=(chF_lt qN).symm
 have hstep:=fun (h0:nx≠[]) T R h=>hc.step (T:=T) (R:=R) h0 h
 refine gH qM ?_
 refine aE _ rfl (fun hgt=>?_) (fun hgt=>?_)
 ·have hb0:0<nx.length:=by omega
  have hnx:nx≠[]:=List.length_pos_iff.1 hb0
  have hdb:dg nx=nx.length:=eK hbn
  have hda:dg (chF ls nx (ls.length - 1))=(chF ls nx (ls.length - 1)).length:=eK han
  have he2:e+1≤K:=Nat.le_trans he (Nat.le_trans (ge_mono qN qN) hKe)
  have hstep':=hstep hnx
  generalize hA:chF ls nx (ls.length - 1)=A at *
  have hAl:A.length≤n:=by omega
  have hre:∀ j,j≤n+1→re e j≤34359738368:=fun j hj=>by
   unfold re
   have h1:(e+1)*(j+1)≤K*(n+2):=Nat.mul_le_mul he2 qN
   have h2:(e+1)*(j+1)=j*(e+1)+(e+1):=by rw [Nat.mul_add,Nat.mul_comm]; omega
   omega
  have hrest:=fun a b=>pRestOT a b A nx e za zb qN (Nat.le_trans (hre _ qN) qE) qN qN
  have hj:=ge_step (j:=dg A+1 - dg nx) (δ:=dg A - dg nx) he qN
  rw [show dg s - dg A+(dg A - dg nx)=dg s - dg nx by omega] at hj
  refine jN (size:=1) V [] (nx.map cn) qE (aB (v:=nv) (d:=V (nx.map cn)) qM) rfl fun l1=>?_
  refine eC 0 rfl hlv (a9 (v:=l1) qM) (by simp; omega) (by simp; omega) fun lv2 hlv2=>?_
  rw [uY (fun l:List Int=>l.map cn)]
  have hl2:((ls++[nx]).map fun l:List Int=>l.map cn).length=ls.length+1:=by simp
  have hel:((ls++[nx]).map fun l:List Int=>l.map cn).getD (ls.length - 1) []=A.map cn:=by
   rw [rY,← chF_lt (nx:=[]) (by simp; omega),chF_snoc qN,hA]
  refine dV 0 rfl hlv2 fun _=>?_
  refine ar rfl qI ?_
  refine aI 0 rfl hlv2 (ls.length - 1) qN qN ?_
  refine bL (d:=V (A.map cn)) 0 rfl (ls.length - 1) qN (by show V _=_; rw [hel]) (jL _) fun y2=>?_
  refine cF (hrest y2 nv) ?_
  rintro _ _ _ ⟨ta,rb,T,R,hrb,rfl,hR,rfl⟩
  rw [if_neg qN] at hR
  obtain ⟨rfl,hspec,zT,zR,lT,lR⟩:=hR
  have hlast2:∀ y,chF (ls++[nx]) y ((ls++[nx]).length - 1)=nx:=fun y=>by
   rw [List.length_append,show ls.length+[nx].length - 1=ls.length from Nat.add_sub_cancel _ _,chF_snoc (Nat.le_refl _),hlast]
  refine cH (pDegreeL y2 A e za qN) ?_
  refine cH (pDegreeL nv nx e zb qN) ?_
  refine ar rfl qI ?_
  refine ar (n:=((dg A+1 - dg nx:Nat):Int)) (congrArg some qN) ⟨by omega,by omega⟩ ?_
  refine jD qN qE ?_
  refine aE _ rfl (fun hev=>?_) (fun hev=>?_)
  ·have hcond:(dg A+1 - dg nx)%2=0∨0<ld nx:=.inl qN
   have en:nxt A nx R=ptim (-1) R:=if_pos hcond
   have hzz:szR (re e (dg A+1 - dg nx)) (ptim (-1) R):=zR.neg
   refine cG (dW (-1) qE qE) fun u1=>?_
   refine c8 (pTimesOT rb u1 R (-1) _ 1 zR (kH _ qE) (by have:=hre (dg A+1 - dg nx) qN; omega) qN) (Seals.L 0 rfl hrb) qS ?_
   rintro r2 _ _ ⟨hr2,rfl,rfl⟩
   have hnn:Nm (ptim (-1) R):=by first | exact hspec.rn | (rw [← en]; exact nxt_nm hspec.rn)
   have hdn:dg (ptim (-1) R)=dg R:=by first | rfl | (rw [← en]; exact nxt_dg _ _ _)
   have hll:=eK hnn
   have hstep2:=hstep' T R hspec
   rw [en] at hstep2
   have hlow2:=hspec.low
   refine oD hr2 hnn hzz (hre _ qN) ?_
   refine aU ⟨lv2,r2,ls++[nx],redc (ptim (-1) R),re e (dg A+1 - dg nx)⟩ ⟨hlv2,hstep2,fun l hl=>?_,?_,hzz.redc,?_,Nat.le_trans he1 (re_ge _ _),?_⟩ ?_ qF (aC (dC hr2) (aA qS))
   ·rcases List.mem_append.1 hl with h | h
    ·exact hall l h
    ·rw [List.mem_singleton.1 h]; exact ⟨zb.mono qN,lb⟩
   ·show szR _ (chF (ls++[nx]) _ ((ls++[nx]).length - 1))
    rw [hlast2]; exact zb.mono (re_ge _ _)
   ·show (redc _).length≤n
    rw [kB,← hll,hdn]; omega
   ·show _≤ge _ (ls++[nx]).length (dg s - dg (chF (ls++[nx]) _ ((ls++[nx]).length - 1)))
    rw [hlast2,List.length_append]; exact hj
   ·show (redc _).length<nx.length
    rw [kB,← hll,hdn]; omega
  ·have hld:ld nx=nx.getD (nx.length - 1) 0:=by unfold ld; rw [hdb]
   refine gH qM ?_
   refine ar rfl qI ?_
   refine aK (v:=nv) qM (nx.length - 1) qN (by rw [List.length_map]; omega) fun a1=>?_
   refine aM (d:=J ((nx.map cn).getD (nx.length - 1) z0)) qM (a8 _) fun a2=>?_
   have hsg:∀ y,Meets Tryz.prog 51 [y] [(y,J ((nx.map cn).getD (nx.length - 1) z0))] (fun r os fs=>os=[]∧fs=[]∧r=.int .i64 (ld nx).sign):=fun y=>by
    rw [eZ qN,hld]; exact zSignZ y _ e (zb.get _) qN
   refine cH (hsg a2) ?_
   refine aE _ rfl (fun hpos=>?_) (fun hpos=>?_)
   ·have hcond:(dg A+1 - dg nx)%2=0∨0<ld nx:=.inr (by
     rcases Int.lt_trichotomy (ld nx) 0 with h | h | h
     ·rw [eS h] at hpos; omega
     ·rw [h] at hpos; simp at hpos
     ·exact h)
    have en:nxt A nx R=ptim (-1) R:=if_pos hcond
    have hzz:szR (re e (dg A+1 - dg nx)) (ptim (-1) R):=zR.neg
    refine cG (dW (-1) qE qE) fun u1=>?_
    refine c8 (pTimesOT rb u1 R (-1) _ 1 zR (kH _ qE) (by have:=hre (dg A+1 - dg nx) qN; omega) qN) (Seals.L 0 rfl hrb) qS ?_
    rintro r2 _ _ ⟨hr2,rfl,rfl⟩
    have hnn:Nm (ptim (-1) R):=by first | exact hspec.rn | (rw [← en]; exact nxt_nm hspec.rn)
    have hdn:dg (ptim (-1) R)=dg R:=by first | rfl | (rw [← en]; exact nxt_dg _ _ _)
    have hll:=eK hnn
    have hstep2:=hstep' T R hspec
    rw [en] at hstep2
    have hlow2:=hspec.low
    refine oD hr2 hnn hzz (hre _ qN) ?_
    refine aU ⟨lv2,r2,ls++[nx],redc (ptim (-1) R),re e (dg A+1 - dg nx)⟩ ⟨hlv2,hstep2,fun l hl=>?_,?_,hzz.redc,?_,Nat.le_trans he1 (re_ge _ _),?_⟩ ?_ qF (aC (dC hr2) (aA qS))
    ·rcases List.mem_append.1 hl with h | h
     ·exact hall l h
     ·rw [List.mem_singleton.1 h]; exact ⟨zb.mono qN,lb⟩
    ·show szR _ (chF (ls++[nx]) _ ((ls++[nx]).length - 1))
     rw [hlast2]; exact zb.mono (re_ge _ _)
    ·show (redc _).length≤n
     rw [kB,← hll,hdn]; omega
    ·show _≤ge _ (ls++[nx]).length (dg s - dg (chF (ls++[nx]) _ ((ls++[nx]).length - 1)))
     rw [hlast2,List.length_append]; exact hj
    ·show (redc _).length<nx.length
     rw [kB,← hll,hdn]; omega
   ·have hcond:¬ ((dg A+1 - dg nx)%2=0∨0<ld nx):=fun h=>by
     rcases h with h | h
     ·omega
     ·rw [eR h] at hpos; omega
    have en:nxt A nx R=R:=if_neg hcond
    have hzz:=zR
    have hnn:Nm (R):=by first | exact hspec.rn | (rw [← en]; exact nxt_nm hspec.rn)
    have hdn:dg (R)=dg R:=by first | rfl | (rw [← en]; exact nxt_dg _ _ _)
    have hll:=eK hnn
    have hstep2:=hstep' T R hspec
    rw [en] at hstep2
    have hlow2:=hspec.low
    refine oD hrb hnn hzz (hre _ qN) ?_
    refine aU ⟨lv2,rb,ls++[nx],redc (R),re e (dg A+1 - dg nx)⟩ ⟨hlv2,hstep2,fun l hl=>?_,?_,hzz.redc,?_,Nat.le_trans he1 (re_ge _ _),?_⟩ ?_ qF (aC (dC hrb) (aA qS))
    ·rcases List.mem_append.1 hl with h | h
     ·exact hall l h
     ·rw [List.mem_singleton.1 h]; exact ⟨zb.mono qN,lb⟩
    ·show szR _ (chF (ls++[nx]) _ ((ls++[nx]).length - 1))
     rw [hlast2]; exact zb.mono (re_ge _ _)
    ·show (redc _).length≤n
     rw [kB,← hll,hdn]; omega
    ·show _≤ge _ (ls++[nx]).length (dg s - dg (chF (ls++[nx]) _ ((ls++[nx]).length - 1)))
     rw [hlast2,List.length_append]; exact hj
    ·show (redc _).length<nx.length
     rw [kB,← hll,hdn]; omega
 ·obtain rfl:nx=[]:=List.length_eq_zero_iff.1 qN
  exact fin ⟨rfl,s,ls,hs,hc,fun l hl=>⟨(hall l hl).1,Nat.le_trans (hall l hl).2 hnN⟩,rfl⟩ (aC (Seals.L 0 rfl hlv) (aA qS))
theorem vx_drop (ls:List (List Int)) (x:Int):∀ (e i:Nat),i+e=ls.length→vx (fun j=>ls.getD j []) x i e=(ls.drop i).map fun l=>pev l x
 | 0,i,h=>by rw [List.drop_eq_nil_of_le qN]; rfl
 | e+1,i,h=>by
  have hi:i<ls.length:=by omega
  rw [List.drop_eq_getElem_cons hi,List.map_cons,← vx_drop ls x e (i+1) qN]
  have:ls[i]=ls.getD i []:=by rw [gE,List.getElem?_eq_getElem hi]; rfl
  rw [this]; rfl
def tns (ls:List (List Int)) (x:Int):Nat:=vs 0 (ls.map fun l=>pev l x)
theorem tns_sV {ls:List (List Int)} (h:1≤ls.length) (x:Int):tns ls x=sV (fun i=>ls.getD i []) (ls.length - 1) x:=by
 unfold tns sV
 rw [show ls.length - 1+1=ls.length by omega,vx_drop ls x ls.length 0 qN,List.drop_zero]
theorem tns_le (ls:List (List Int)) (x:Int):tns ls x≤ls.length - 1:=by
 unfold tns
 have:=vs_len0 (ls.map fun l=>pev l x)
 rwa [List.length_map] at this
theorem turnsT (v w:Value) (ls:List (List Int)) (x:Bool×List Nat) (k a n:Nat) (hm:∀ l,l∈ls→szR k l∧l.length≤n) (hxl:Lim x.2) (hxa:x.2.length≤a) (hk:k+(n+1)*(a+1)≤137438953472) (ln:n≤1073741824) (lm:ls.length≤1073741824) :
  Meets Tryz.prog 148 [v,w] [(v,wd ls),(w,J x)] (fun r os fs=>os=[]∧fs=[]∧r=.int .i64 (tns ls (jv x):Nat)):=by
 have h:=turns_meets v w (ls.map fun l=>l.map cn) x k a n (fun r hr=>by
  obtain ⟨l,hl,rfl⟩:=List.mem_map.1 hr
  exact ⟨(hm l hl).1.fit,by rw [List.length_map]; exact (hm l hl).2⟩) hxl hxa hk ln (by rw [List.length_map]; exact lm)
 rw [List.map_map] at h
 have e:(ls.map ((fun r=>pev (vv r) (jv x)) ∘ fun l=>l.map cn))=ls.map fun l=>pev l (jv x):=List.map_congr_left fun l _=>by show pev (vv (l.map cn)) _=_; rw [fH]
 rw [e] at h
 exact h
structure ChOk (P:List Int) (k n a:Nat):Prop where
 n1:n≤1048576
 k1:ge (k+1) (n - 1) n+(k+1)≤137438953472
 k2:k+(n+1)*(dvk (k+1) n+1)≤137438953472
 k3:∃ K m,SimOk P K m∧m≤n∧K*(m+2)≤34359738368∧K+(n+1)*(a+1)≤137438953472
 k5:k+(n+1)*(a+1)≤137438953472
structure Ch0 (k n a:Nat):Prop where
 n1:n≤1048576
 k1:ge (k+1) n n*(n+2)≤137438953472
 k2:k+(n+1)*(dvk (k+1) n+1)≤137438953472
 k3:chK k n*(n+2)≤34359738368
 k4:chK k n+(n+1)*(a+1)≤137438953472
 k5:k+(n+1)*(a+1)≤137438953472
theorem sim_sz {P s:List Int} {k n:Nat} (hP:szR k P) (hl:P.length≤n) (hn:n≤1048576) (h:nM P s):szR (dvk k n) s∧s.length≤n:=by
 by_cases h0:dg P=0
 ·rw [h.zero h0]; exact ⟨fun x hx=>by simp at hx,Nat.zero_le _⟩
 ·obtain ⟨g,_,hg⟩:=h.ok qN
  have hd:=dO P
  have hdl:=dI P
  have hv:Dv s (pprim P):=⟨g,fun x=>by rw [hg]; exact Int.mul_comm _ _⟩
  refine ⟨dv_szR hv qN hP.pprim h.sn qN qN,?_⟩
  have:=(hv.deg qN).2
  rw [eK h.sn] at this
  omega
theorem Ch0.of {p:Row} {k n a:Nat} (h:Ch0 k n a) (hp:Fit k p) (lp:p.length≤n):ChOk (vv p) k n a :=
 ⟨h.n1,Nat.le_trans (ge_old _ _) h.k1,h.k2,⟨chK k n,n,fun _ hs=>⟨dvk k n,(sim_sz hp.szR (by rw [cP]; exact lp) h.n1 hs).1,(sim_sz hp.szR (by rw [cP]; exact lp) h.n1 hs).2,Nat.le_refl _⟩,Nat.le_refl _,h.k3,h.k4⟩,h.k5⟩
def pfx:Value→Nat→Value
 | .slice a _ c,k=>.slice a k c
 | v,_=>v
theorem pfx_sl {v:Value} {k:Nat} (h:isSl v):isSl (pfx v k):=by
 obtain ⟨a,n,c,rfl⟩:=h
 exact ⟨_,_,_,rfl⟩
theorem own_cases {G:Ctx} {os:List Own} {fs:List bI} {w:World} {pos size n:Nat} {v:Value} {d:Nat→Dat} (hw:Holds G os fs w) (h:bD os pos=some (bK v size n d)) (hs:isSl v) (hsz:0<size) :
  (v=.slice none 0 0∧n=0)∨∃ r cap,v=.slice (some ⟨r,0,none⟩) n cap∧OwnRow (Good G.A os w) G.B w r size n cap d:=by
 rcases hw.own _ (bJ h) 0 Nat.zero_lt_one with h1 | h1 | ⟨r,h1,_⟩ | ⟨_,h2,_⟩
 ·exact .inl h1
 ·exact .inr h1
 ·obtain ⟨_,_,_,rfl⟩:=hs; simp [bK] at h1
 ·simp only [bK] at h2; omega
theorem slice_pfx {P:Program} {t e:TypeId} {v:Value} {size n:Nat} {d:Nat→Dat} {kk:IntKind} {x:Int} {os:List Own} {fs:List bI} {K:cC} [ht:TSl P t e size] (pos:Nat) (h:bD os pos=some (bK v size n d)) (hs:isSl v)
  (k:Nat) (hx:x=(k:Int)) (hk:k≤n) (hsz:0<size) (kf:K (pfx v k) os fs):SliceK P t v none (some (.int kk x)) none os fs K:=by
 subst hx
 refine ⟨fun G w hw=>⟨pfx v k,fs,fun w' _=>dJ ?_,kf,hw⟩⟩
 rcases own_cases hw h hs hsz with ⟨rfl,rfl⟩ | ⟨r,cap,rfl,h1,h2,_⟩
 ·obtain rfl:k=0:=by omega
  simp [Instr.sliceAt,run_underlying ht.und,Instr.slice,Instr.sliceBounds,Instr.sliceBound,asIntOf,bS ht.size,pfx]
 ·have h3:(0:Int)≤(k:Int):=by omega
  have h4:(k:Int)≤(cap:Int):=by omega
  have h5:Addr.add ⟨r,0,none⟩ 0=⟨r,0,none⟩:=by simp [eW]
  by_cases hc:cap=0
  ·subst hc
   obtain rfl:k=0:=by omega
   simp [Instr.sliceAt,run_underlying ht.und,Instr.slice,Instr.sliceBounds,Instr.sliceBound,asIntOf,bS ht.size,pfx]
  ·simp [Instr.sliceAt,run_underlying ht.und,Instr.slice,Instr.sliceBounds,Instr.sliceBound,asIntOf,h3,bS ht.size,pfx,hc,h5]
   intro hcon; omega
theorem Seals.pfx {v:Value} {size n:Nat} {d:Nat→Dat} {os:List Own} {fs:List bI} (pos:Nat) (h:bD os pos=some (bK v size n d)) (hs:isSl v) (k:Nat) (hk:k≤n) (hsz:0<size:=by exact Nat.zero_lt_succ _) :
  Seals os fs (setOwn os pos (bK (Go.Proofs.YtjebljkoiaojaaaGreat.pfx v k) size k d)) fs:=by
 intro G w hw
 have hv:=own_cases hw h hs hsz
 have hb:mP (Go.Proofs.YtjebljkoiaojaaaGreat.pfx v k)=mP v:=by
  obtain ⟨a,m,c,rfl⟩:=hs
  cases a <;> rfl
 refine hw.step h rfl rfl rfl (Nat.le_refl _) (fun _ _ _=>rfl) (fun b hb'=>.inl ?_) (fun i j b hi hj _ _=>by simp only [bK] at hi hj; omega) fun mono i hi=>?_
 ·obtain ⟨i,hi,hbb⟩:=hb'
  exact ⟨i,hi,by simp only [bK] at hbb ⊢; rw [← hbb]; exact hb.symm⟩
 rcases hv with ⟨rfl,rfl⟩ | ⟨r,cap,rfl,b1,b2,b3,cur,t,b4,b5,b6⟩
 ·obtain rfl:k=0:=by omega
  exact .inl ⟨rfl,rfl⟩
 ·exact .inr (.inl ⟨r,cap,rfl,b1,by simp only [bK]; omega,b3,cur,t,b4,b5,fun j hj=>by
   simp only [bK] at hj
   obtain ⟨cs,c1,c2⟩:=b6 j qN
   exact ⟨cs,mono _ _ c1,c2⟩⟩)
theorem sX {P:Program} {ty:TypeId} {x v:Value} {k size:Nat} {e:Nat→Dat} {d d':Dat} {os:List Own} {fs:List bI} {K:cC} (pos:Nat) (h:bD os pos=some (bK v size 1 e)) (hbx:kY v) (hk:k+d.cells≤size) (hd0:0<d.cells)
  (ht:(P.info? ty).map (·.size)=some d.cells) (hx:Reads os fs x d)
  (hd:∀ S w cs cs',RdC S w (e 0) cs→RdC S w d cs'→RdC S w d' (cs.take k++cs'++cs.drop (k+cs'.length))) (k':K undef (setOwn os pos (bK v size 1 fun _=>d')) fs):StoreK P ty (mF v k) x os fs K:=by
 obtain ⟨r,rfl⟩:=hbx
 refine ⟨fun G w hw=>?_⟩
 obtain ⟨cx,x1,x2⟩:=hx G w hw
 have hlx:cx.length=d.cells:=dM x1
 have hov:=hw.own _ (bJ h) 0 Nat.zero_lt_one
 obtain ⟨r',cap,hr⟩:=hov.row Nat.zero_lt_one
 have hrr:r'=r:=by have:=hr.blk; simp [bK,mP] at this; exact this.symm
 subst hrr
 obtain ⟨b1,b2,b3,cur,t,b4,b5,b6⟩:=hr.row
 obtain ⟨cs,c1,c2,c3⟩:=b6 0 Nat.zero_lt_one
 have hcap:1≤cap:=b2
 have hs:(bK (.pointer (some ⟨r',0,none⟩)) size 1 e).size=size:=rfl
 have hfit:k+cx.length≤cur.size:=by
  have:1*size≤cap*size:=Nat.mul_le_mul_right _ hcap
  rw [b5,hs,hlx]; omega
 have he:mF (.pointer (some ⟨r',0,none⟩)) k=.pointer (some ⟨r',k,none⟩):=by simp [mF,eW]
 rw [he,vK (oB (cs:=cx) x2 (RdC.oneCells x1) (by rw [hlx]; exact ht) b4 hfit)]
 refine ⟨_,_,k',?_⟩
 have hhas:(bK (.pointer (some ⟨r',0,none⟩)) size 1 e).has r':=⟨0,Nat.zero_lt_one,hr.blk⟩
 refine hw.step h rfl rfl rfl qP (fun q hq hno=>setRow_other w r' q _ fun e'=>hno (e' ▸ hhas)) (fun b hb=>.inl hb) (fun a b c ha hb _ _=>by
  have ha':a<1:=ha
  have hb':b<1:=hb
  omega) fun mono y hy=>?_
 have hy0:y=0:=by have:y<1:=hy; omega
 subst hy0
 have hc1:cap=1:=by
  rcases hov with ⟨h1,h2⟩ | ⟨q,cap',h1,h2⟩ | ⟨q,h1,h2,h3⟩ | ⟨h1,_⟩
  ·simp [bK] at h1
  ·simp [bK] at h1
  ·have:q=r':=by simp [bK] at h1; exact h1.symm
   subst this
   obtain ⟨_,_,_,cur',t',q4,q5,_⟩:=h3
   rw [b4] at q4
   simp only [Option.some.injEq,Obj.cells.injEq] at q4
   obtain ⟨rfl,_⟩:=q4
   rw [q5] at b5
   exact (Nat.eq_of_mul_eq_mul_right (show 0<(bK (.pointer (some ⟨q,0,none⟩)) size 1 e).size by rw [hs]; omega) b5).symm
  ·simp [bK] at h1
 subst hc1
 refine .inr (.inr (.inl ⟨r',rfl,rfl,b1,Nat.le_refl _,b3,_,t,setRow_heap w r' cur _ t _ b4,?_,fun i hi=>?_⟩))
 ·simp only [List.size_toArray,List.length_append,List.length_take,List.length_drop,Array.length_toList] at hfit ⊢
  rw [b5] at hfit ⊢
  show _=1*size
  simp only [hs] at hfit ⊢
  omega
 ·have hi0:i=0:=by omega
  subst hi0
  have hm:=mono _ cs c1
  have hmx:=mono _ cx x1
  have c2':cs.length=size:=c2
  refine ⟨cs.take k++cx++cs.drop (k+cx.length),hd _ _ _ _ hm hmx,by
   show _=size
   simp only [List.length_append,List.length_take,List.length_drop]; omega,fun j hj=>?_⟩
  rw [List.getElem?_toArray,vV _ _ _ _ (by simpa using hfit)]
  have hj':j<size:=hj
  have c3':=c3 j hj'
  have c3'':cur[0*size+j]? = cs[j]? := c3'
  rw [Nat.zero_mul,Nat.zero_add] at c3''
  show (if k≤0*size+j∧0*size+j<k+cx.length then cx[0*size+j - k]? else cur.toList[0*size+j]?)=_
  have c4:cur.toList[j]? = cs[j]? := by rw [Array.getElem?_toList]; exact c3''
  rw [Nat.zero_mul,Nat.zero_add,vV cs cx k j qN,c4]
class TStr2211 (P:Program) (t:TypeId):Prop where
 und:∃ fs f0 f1 f2 f3,P.underlying t=some (.struct fs)∧fs = #[f0,f1,f2,f3]∧f0.offset=0∧f1.offset=2∧f2.offset=4∧f3.offset=5∧(P.info? f0.type).map (·.size)=some 2∧(P.info? f1.type).map (·.size)=some 2∧(P.info? f2.type).map (·.size)=some 1∧(P.info? f3.type).map (·.size)=some 1
 zero:∃ i z0 z1 z2 z3 z4 z5,P.info? t=some i∧i.zero=some (.agg #[z0,z1,z2,z3,z4,z5])
theorem build_run2211 {P:Program} {t:TypeId} {a b c d:Value} {x y:Int} (ht:TStr2211 P t) (w:World) :
  (Instr.build t #[(0,.agg #[a,b]),(1,.agg #[c,d]),(2,.int .i64 x),(3,.int .i64 y)]).run P w=.ok (.agg #[a,b,c,d,.int .i64 x,.int .i64 y]) w:=by
 obtain ⟨fs,f0,f1,f2,f3,h1,rfl,h3,h4,h5,h6,h7,h8,h9,h10⟩:=ht.und
 obtain ⟨i,z0,z1,z2,z3,z4,z5,k1,k2⟩:=ht.zero
 simp [Instr.build,zeroValue,typeInfo,k1,k2,run_underlying h1,bS h7,bS h8,bS h9,bS h10,h3,h4,h5,h6,Instr.fill,Value.cells,Array.zipIdx]
theorem RdC.two' {S:Nat→Prop} {w:World} {d1 d2:Dat} {cs:List Value} (h:RdC S w (.cat d1 d2) cs) (hc:d1.cells+d2.cells=2):∃ x y,cs=[x,y]:=by
 have:=dM h
 simp only [Dat.cells,hc] at this
 match cs,this with
 | [x,y],_=>exact ⟨x,y,rfl⟩
theorem xU {P:Program} {t:TypeId} {a b:Value} {x y:Int} [ht:TStr2211 P t] {d1 d2 d3 d4:Dat} {os:List Own} {fs:List bI} {K:cC} (ha:Knw os fs a (.cat d1 d2)) (hb:Knw os fs b (.cat d3 d4)) (ca:d1.cells+d2.cells=2) (cb:d3.cells+d4.cells=2)
  (k:∀ v,K v os ((v,.cat (.cat d1 d2) (.cat (.cat d3 d4) (.cat (.one (.int .i64 x)) (.one (.int .i64 y)))))::fs)):sK P t [(0,a),(1,b),(2,.int .i64 x),(3,.int .i64 y)] os fs K:=by
 refine ⟨fun G w hw=>?_⟩
 obtain ⟨c1,a1,rfl⟩:=ha G w hw
 obtain ⟨c2,b1,rfl⟩:=hb G w hw
 obtain ⟨p,q,rfl⟩:=RdC.two' a1 ca
 obtain ⟨r,s,rfl⟩:=RdC.two' b1 cb
 exact ⟨_,_,fun w' _=>dJ (build_run2211 ht w'),k _,hw.put ⟨[p,q,r,s,.int .i64 x,.int .i64 y],⟨[p,q],[r,s,.int .i64 x,.int .i64 y],rfl,a1,⟨[r,s],[.int .i64 x,.int .i64 y],rfl,b1,⟨[.int .i64 x],[.int .i64 y],rfl,⟨rfl,rfl⟩,⟨rfl,rfl⟩⟩⟩⟩,rfl⟩⟩
end Go.Proofs.YtjebljkoiaojaaaGreat
