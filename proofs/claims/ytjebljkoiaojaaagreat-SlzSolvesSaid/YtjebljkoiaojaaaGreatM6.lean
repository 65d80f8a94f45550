/- The law SlzSolves is true of each input, and changes none. No condition. -/
import Derived.Test.YtjebljkoiaojaaaGreatM5
import Derived.Test.YtjebljkoiaojaaaGreatRows
import Derived.OpenShut
import Derived.Below
import Derived.Lib.SmallJoins
set_option linter.unusedVariables false
set_option linter.unusedSimpArgs false
namespace Go.Proofs.YtjebljkoiaojaaaGreat
open Go.RowKit
variable {os:List Own} {fs:List bO} {K:cV} {P:Program}
theorem take_dg(l:aAd):l.take (dg l)=nrm l:=by refine eO 0 (by rw[aCr];have:=cA l;show min (dg l) l.length=dg l;omega) fun i hi=>?_;rw[aCr]at hi;rw[gH];simp only[gE,aFA];rw[aBX qN]
theorem nQ(v:Value)(p:Row)(k:Nat)(hp:Fit k p)(hk:k≤137438953472)(lp:p.length≤1073741824):aAb 190 [v] [(v,V p)] (aW (zd (cP (vv p):Nat))):=by
 have d1:=fO v p (hp.mono qN);have hN:dg (vv p)≤p.length:=aBW (cA _) (by rw[cB];exact aBY _);have hs:∀i,sz (cP ((vv p).take i):Nat) k:=fun i=>mY (hp.szR.take i);have hst:∀i,i<p.length→Nat.gcd (cP ((vv p).take i)) (jv (p.getD i z0)).natAbs=cP ((vv p).take (i+1)):=fun i hi=>by rw[aA8 (by rw[cB];exact hi),jZ p i hi]
 have aAo:cP ((vv p).take (dg (vv p)))=cP (vv p):=by rw[take_dg,cont_nrm]
 have h00:cP ((vv p).take 0)=0:=rfl;generalize hC:(fun i=>cP ((vv p).take i))=C;have hs':∀i,sz (C i:Nat) k:=fun i=>by rw[←hC];exact hs i
 have hst':∀i,i<p.length→Nat.gcd (C i) (jv (p.getD i z0)).natAbs=C (i+1):=fun i hi=>by rw[←hC];exact hst i hi
 have aBz:C (dg (vv p))=cP (vv p):=by rw[←hC];exact aAo
 have h0':C 0=0:=by rw[←hC];exact h00
 generalize dg (vv p)=n at *;refine mV Tryz.func190 ?_;refine aG (d:=I false []) fun o ho=>lS (da:=.one (.bool false)) (db:=U (bX 0)) (fun S w=>⟨[.bool false],[.slice none 0 0],rfl,eG S w,by rw[cK];exact gJ S w 1 _⟩) fun z=>aG (d:=I false []) fun s hs1=>aF (d:=zd 0) 0 rfl hs1 rfl qK ?_ ?_;exact aB qM;refine aO (X:=Nat) (fun i=>([(0,v),(2,o),(3,s),(4,.int .i64 (i:Nat))],[bN s 2 1 (fun _=>zd (C i:Nat)),bN o 2 1 (fun _=>I false [])],[(v,V p)])) (fun i=>i≤n) (fun i=>n-i) rfl ?_ ?_
 ·exact aS 0 (aB3 _) aB0 qF (aC (bE (by rw[h0'];rfl)) (aA qS))
 ·rintro i hi;refine cH (d1)<|aE _ rfl (fun hlt=>?_) (fun hlt=>?_)
  ·have hin:i<p.length:=qN;have hsi:=hs' i;have hpi:=hp.get i;refine aY [0,1,2,3,4,5,6] [0,1,2,3,4,5,6] qK qK<|aD (d:=zd (C i:Nat)) 0 rfl hs1 rfl (aM _ _) fun y2=>aJ qM i rfl hin fun b1=>aK (d:=J (p.getD i z0)) qM (aR _) fun y3=>?_;have hg:=rGcdJ y2 y3 (cn (C i:Nat)) (p.getD i z0) (aV _) (aBW hsi.len hk) hpi.1 qN;rw[dJ,aCA,hst' i hin]at hg;refine cG hg fun y4=>aF (d:=zd (C (i+1):Nat)) 0 rfl hs1 rfl qK ?_ ?_;exact aB qM;refine ar rfl qI<|aS (i+1) qN qO qF (aC (bE rfl) (aA qS))
  ·have hip:i=n:=qN;subst hip;have hsn:=hs' i;rw[aBz]at hsn;rw[aBz];have hab:=fun y=>rAbsZ y _ _ hsn hk;simp only[aCA]at hab;refine aD (d:=zd (cP (vv p):Nat)) 0 rfl hs1 rfl (aM _ _) fun y1=>cG (hab y1) fun y2=>aF (d:=zd (cP (vv p):Nat)) 1 rfl ho rfl qK ?_ ?_;exact aB qM;refine aD (d:=zd (cP (vv p):Nat)) 1 rfl ho rfl (aM _ _) fun r=>aAi (dS (dS (aA qS)))
theorem prim_neg{l:aAd}(h:ld l<0):ptim (-1) (lst (dg l) fun i=>l.getD i 0/(cP l:Nat))=pprim l:=by
 refine(ptim_nm _ _).ext (iD _) fun x=>?_;unfold pprim;rw[ptim,dH,dH]
 congr 1
 refine eO 0 (by rw[aBV,aBV,cQ];rfl) fun i hi=>?_;rw[aBV,cQ]at hi;rw[←vK,←vK,iX (by rw[cQ];exact hi),iX hi,iX (show i<(nrm l).length from hi),gH,kJ,aBX h,aGs];omega
theorem prim_pos{l:aAd}(h:¬ld l<0):nrm (lst (dg l) fun i=>l.getD i 0/(cP l:Nat))=pprim l:=by
 unfold pprim;rw[←vK (nrm l) fun y=>y/kJ l]
 congr 1
 refine eO 0 (by rw[cQ,cQ];rfl) fun i hi=>?_;rw[cQ]at hi;rw[iX hi,iX (show i<(nrm l).length from hi),gH,kJ,aBU h]
theorem jP(v:Value)(p:Row)(k:Nat)(hp:Fit k p)(h1k:1≤k)(hk:k≤34359738368)(lp:p.length≤536870912):aAb 172 [v] [(v,V p)] (aW (vd (pprim (vv p)))):=by
 have d1:=fO v p (hp.mono qN);have ct:=nQ v p k hp qN qN;have l1:=oN v p (hp.mono qN);have hN:dg (vv p)≤p.length:=aBW (cA _) (by rw[cB];exact aBY _);have hcs:sz (cP (vv p):Nat) k:=mY hp.szR;have hne:0<dg (vv p)→((cP (vv p):Nat):Int)≠0:=fun h e=>by have h3:=eV.1 (show cP (vv p)=0 by omega);omega
 have sld:sz (ld (vv p)) k:=hp.szR.get _;have hsg:=fun u=>rSignZ u (ld (vv p)) k sld qN;have e1:ld (vv p)<0→_:=prim_neg (l:=vv p);have e2:¬ld (vv p)<0→_:=prim_pos (l:=vv p);have hsz:szR k (lst (dg (vv p)) fun i=>(vv p).getD i 0/(cP (vv p):Nat)):=szR.lst fun i _=>pH (hp.szR.get i);have hgv:∀i,i<p.length→jv (p.getD i z0)/(cP (vv p):Nat)=(vv p).getD i 0/(cP (vv p):Nat):=fun i hi=>by rw[jZ p i hi]
 have hdj:∀u u' i,i<p.length→0<dg (vv p)→aAb 37 [u,u'] [(u,J (p.getD i z0)),(u',zd (cP (vv p):Nat))] (fun r os fs=>os=[]∧∃q m,r=.tuple #[q,m,.bool true]∧fs=[(q,zd ((vv p).getD i 0/(cP (vv p):Nat))),(m,zd (jv (p.getD i z0)%(cP (vv p):Nat)))]):=fun u u' i hi h0=>by have:=rDivModJZ u u' (p.getD i z0) (cP (vv p):Nat) k (hp.get i).1 (aBW (hp.get i).2 hk) hcs hk (hne h0);rw[hgv i hi]at this;exact this
 generalize pprim (vv p)=A at *;generalize ld (vv p)=L at *;generalize hg:(fun i=>(vv p).getD i 0/(cP (vv p):Nat))=g at *;have hdj':∀u u' i,i<p.length→0<dg (vv p)→aAb 37 [u,u'] [(u,J (p.getD i z0)),(u',zd (cP (vv p):Nat))] (fun r os fs=>os=[]∧∃q m,r=.tuple #[q,m,.bool true]∧fs=[(q,zd (g i)),(m,zd (jv (p.getD i z0)%(cP (vv p):Nat)))]):=by rw[←hg];exact hdj
 generalize cP (vv p)=ctv at *;generalize dg (vv p)=n at *;refine mV Tryz.func172 ?_;refine fI (size:=2) (e:=26) J z0 qE fun v0 hv0=>aO (X:=Value×Nat) (fun x=>([(0,v),(3,x.1),(4,.int .i64 (x.2:Nat))],[fV 2 J z0 x.1 ((lst x.2 g).map cn)],[(v,V p)])) (fun x=>isSl x.1∧x.2≤n) (fun x=>n-x.2) rfl ?_ ?_
 ·exact aS (v0,0) ⟨hv0,aB3 _⟩ aB0 qF (aA qS)
 ·rintro⟨vo,i⟩ ⟨hvo,h2⟩;simp only at hvo h2⊢;have hll:(lst i g).length=i:=cQ _ _;refine cH (d1)<|aE _ rfl (fun hlt=>?_) (fun hlt=>?_)
  ·have hin:i<p.length:=qN;have hdv:=fun u u'=>hdj' u u' i hin qN;generalize jv (p.getD i z0)%(ctv:Nat)=m at *;refine jN (X:=Value) (fun z=>([(0,v),(3,vo),(4,.int .i64 (i:Nat)),(5,z)],[fV 2 J z0 vo ((lst i g).map cn)],[(v,V p),(z,.ptr (zd (g i)))])) (fun _=>True) ?_ ?_
   ·
    refine eH [0,1,2,3,4,5,6,7,8,11,12,13,9,14,10,15] qK<|a9 5 11 qK qK qK ?_ ?_
    ·refine a9 5 12 qK qK qK ?_ ?_
     ·refine a9 6 11 qK qK qK ?_ ?_
      ·refine a9 6 12 qK qK qK ?_ ?_
       ·refine a9 11 12 qK qK qK ?_ ?_
        ·refine cM [0,1,2,3,4,5,6,7,8,9,10,11,12,13,14,15] qK qK<|aJ qM i rfl hin fun b1=>aK (d:=J (p.getD i z0)) qM (aR _) fun y1=>cG (ct) fun y2=>cF (hdv y1 y2) ?_;rintro _ _ _ ⟨rfl,y3,y4,rfl,rfl⟩;refine aG (d:=I false []) fun b5 h5=>aG (d:=I false []) fun b6 h6=>aF (d:=zd (g i)) 1 rfl h5 rfl qK (aB qM)<|aF (d:=zd m) 0 rfl h6 rfl qK (aB qM)<|aS b5 aB0 aB0 qF (dS (aC (eL (d:=zd (g i)) 0 rfl h5 rfl) (aA qS)))
        ·refine cM [0,1,2,3,4,5,6,7,8,9,10,12,11,13,14,15] qK qK<|aJ qM i rfl hin fun b1=>aK (d:=J (p.getD i z0)) qM (aR _) fun y1=>cG (ct) fun y2=>cF (hdv y1 y2) ?_;rintro _ _ _ ⟨rfl,y3,y4,rfl,rfl⟩;refine aG (d:=I false []) fun b6 h6=>aG (d:=I false []) fun b5 h5=>aF (d:=zd (g i)) 0 rfl h5 rfl qK (aB qM)<|aF (d:=zd m) 1 rfl h6 rfl qK (aB qM)<|aS b5 aB0 aB0 qF (aC (eL (d:=zd (g i)) 0 rfl h5 rfl) (dS (aA qS)))
       ·refine cM [0,1,2,3,4,5,12,6,7,8,9,10,11,13,14,15] qK qK<|aJ qM i rfl hin fun b1=>aK (d:=J (p.getD i z0)) qM (aR _) fun y1=>cG (ct) fun y2=>aG (d:=I false []) fun b6 h6=>cF (hdv y1 y2) ?_;rintro _ _ _ ⟨rfl,y3,y4,rfl,rfl⟩;refine aG (d:=I false []) fun b5 h5=>aF (d:=zd (g i)) 0 rfl h5 rfl qK (aB qM)<|aF (d:=zd m) 1 rfl h6 rfl qK (aB qM)<|aS b5 aB0 aB0 qF (aC (eL (d:=zd (g i)) 0 rfl h5 rfl) (dS (aA qS)))
      ·refine a9 6 12 qK qK qK ?_ ?_
       ·refine cM [0,1,2,3,4,5,11,6,7,8,9,10,12,13,14,15] qK qK<|aJ qM i rfl hin fun b1=>aK (d:=J (p.getD i z0)) qM (aR _) fun y1=>cG (ct) fun y2=>aG (d:=I false []) fun b5 h5=>cF (hdv y1 y2) ?_;rintro _ _ _ ⟨rfl,y3,y4,rfl,rfl⟩;refine aG (d:=I false []) fun b6 h6=>aF (d:=zd (g i)) 1 rfl h5 rfl qK (aB qM)<|aF (d:=zd m) 0 rfl h6 rfl qK (aB qM)<|aS b5 aB0 aB0 qF (dS (aC (eL (d:=zd (g i)) 0 rfl h5 rfl) (aA qS)))
       ·refine a9 11 12 qK qK qK ?_ ?_
        ·refine cM [0,1,2,3,4,5,11,12,6,7,8,9,10,13,14,15] qK qK<|aJ qM i rfl hin fun b1=>aK (d:=J (p.getD i z0)) qM (aR _) fun y1=>cG (ct) fun y2=>aG (d:=I false []) fun b5 h5=>aG (d:=I false []) fun b6 h6=>cF (hdv y1 y2) ?_;rintro _ _ _ ⟨rfl,y3,y4,rfl,rfl⟩;refine aF (d:=zd (g i)) 1 rfl h5 rfl qK (aB qM)<|aF (d:=zd m) 0 rfl h6 rfl qK (aB qM)<|aS b5 aB0 aB0 qF (dS (aC (eL (d:=zd (g i)) 0 rfl h5 rfl) (aA qS)))
        ·refine cM [0,1,2,3,4,5,12,11,6,7,8,9,10,13,14,15] qK qK<|aJ qM i rfl hin fun b1=>aK (d:=J (p.getD i z0)) qM (aR _) fun y1=>cG (ct) fun y2=>aG (d:=I false []) fun b6 h6=>aG (d:=I false []) fun b5 h5=>cF (hdv y1 y2) ?_;rintro _ _ _ ⟨rfl,y3,y4,rfl,rfl⟩;refine aF (d:=zd (g i)) 0 rfl h5 rfl qK (aB qM)<|aF (d:=zd m) 1 rfl h6 rfl qK (aB qM)<|aS b5 aB0 aB0 qF (aC (eL (d:=zd (g i)) 0 rfl h5 rfl) (dS (aA qS)))
     ·refine a9 6 11 qK qK qK ?_ ?_
      ·refine cM [0,1,2,3,4,12,5,6,7,8,9,10,11,13,14,15] qK qK<|aJ qM i rfl hin fun b1=>aK (d:=J (p.getD i z0)) qM (aR _) fun y1=>aG (d:=I false []) fun b6 h6=>cG (ct) fun y2=>cF (hdv y1 y2) ?_;rintro _ _ _ ⟨rfl,y3,y4,rfl,rfl⟩;refine aG (d:=I false []) fun b5 h5=>aF (d:=zd (g i)) 0 rfl h5 rfl qK (aB qM)<|aF (d:=zd m) 1 rfl h6 rfl qK (aB qM)<|aS b5 aB0 aB0 qF (aC (eL (d:=zd (g i)) 0 rfl h5 rfl) (dS (aA qS)))
      ·refine cM [0,1,2,3,4,12,5,11,6,7,8,9,10,13,14,15] qK qK<|aJ qM i rfl hin fun b1=>aK (d:=J (p.getD i z0)) qM (aR _) fun y1=>aG (d:=I false []) fun b6 h6=>cG (ct) fun y2=>aG (d:=I false []) fun b5 h5=>cF (hdv y1 y2) ?_;rintro _ _ _ ⟨rfl,y3,y4,rfl,rfl⟩;refine aF (d:=zd (g i)) 0 rfl h5 rfl qK (aB qM)<|aF (d:=zd m) 1 rfl h6 rfl qK (aB qM)<|aS b5 aB0 aB0 qF (aC (eL (d:=zd (g i)) 0 rfl h5 rfl) (dS (aA qS)))
    ·refine a9 5 12 qK qK qK ?_ ?_
     ·refine a9 6 12 qK qK qK ?_ ?_
      ·refine cM [0,1,2,3,4,11,5,6,7,8,9,10,12,13,14,15] qK qK<|aJ qM i rfl hin fun b1=>aK (d:=J (p.getD i z0)) qM (aR _) fun y1=>aG (d:=I false []) fun b5 h5=>cG (ct) fun y2=>cF (hdv y1 y2) ?_;rintro _ _ _ ⟨rfl,y3,y4,rfl,rfl⟩;refine aG (d:=I false []) fun b6 h6=>aF (d:=zd (g i)) 1 rfl h5 rfl qK (aB qM)<|aF (d:=zd m) 0 rfl h6 rfl qK (aB qM)<|aS b5 aB0 aB0 qF (dS (aC (eL (d:=zd (g i)) 0 rfl h5 rfl) (aA qS)))
      ·refine cM [0,1,2,3,4,11,5,12,6,7,8,9,10,13,14,15] qK qK<|aJ qM i rfl hin fun b1=>aK (d:=J (p.getD i z0)) qM (aR _) fun y1=>aG (d:=I false []) fun b5 h5=>cG (ct) fun y2=>aG (d:=I false []) fun b6 h6=>cF (hdv y1 y2) ?_;rintro _ _ _ ⟨rfl,y3,y4,rfl,rfl⟩;refine aF (d:=zd (g i)) 1 rfl h5 rfl qK (aB qM)<|aF (d:=zd m) 0 rfl h6 rfl qK (aB qM)<|aS b5 aB0 aB0 qF (dS (aC (eL (d:=zd (g i)) 0 rfl h5 rfl) (aA qS)))
     ·refine a9 11 12 qK qK qK ?_ ?_
      ·refine cM [0,1,2,3,4,11,12,5,6,7,8,9,10,13,14,15] qK qK<|aJ qM i rfl hin fun b1=>aK (d:=J (p.getD i z0)) qM (aR _) fun y1=>aG (d:=I false []) fun b5 h5=>aG (d:=I false []) fun b6 h6=>cG (ct) fun y2=>cF (hdv y1 y2) ?_;rintro _ _ _ ⟨rfl,y3,y4,rfl,rfl⟩;refine aF (d:=zd (g i)) 1 rfl h5 rfl qK (aB qM)<|aF (d:=zd m) 0 rfl h6 rfl qK (aB qM)<|aS b5 aB0 aB0 qF (dS (aC (eL (d:=zd (g i)) 0 rfl h5 rfl) (aA qS)))
      ·refine cM [0,1,2,3,4,12,11,5,6,7,8,9,10,13,14,15] qK qK<|aJ qM i rfl hin fun b1=>aK (d:=J (p.getD i z0)) qM (aR _) fun y1=>aG (d:=I false []) fun b6 h6=>aG (d:=I false []) fun b5 h5=>cG (ct) fun y2=>cF (hdv y1 y2) ?_;rintro _ _ _ ⟨rfl,y3,y4,rfl,rfl⟩;refine aF (d:=zd (g i)) 0 rfl h5 rfl qK (aB qM)<|aF (d:=zd m) 1 rfl h6 rfl qK (aB qM)<|aS b5 aB0 aB0 qF (aC (eL (d:=zd (g i)) 0 rfl h5 rfl) (dS (aA qS)))
   ·rintro b5 _;simp only;refine aK (d:=zd (g i)) qM (aM _ _) fun y3=>fY (size:=2) (f:=J) (z:=z0) (e:=26) (cn (g i)) qE (aB qM) rfl fun y4=>cW (size:=2) (e:=26) (f:=J) (z:=z0) (l:=(lst i g).map cn) (m:=[cn (g i)]) 0 rfl hvo (bA qM) (by simp only[aBV,hll,aB1,aB4];omega) (by simp only[aBV,hll,aB1,aB4];omega) fun vn hvn=>ar rfl qI<|aS (vn,i+1) ⟨hvn,qO⟩ qO qF ?_;rw[show(lst i g).map cn++[cn (g i)]=(lst (i+1) g).map cn by rw[kN,aCB];rfl];exact aA qS
  ·have hii:i=n:=qN;subst hii;refine cG (l1) fun z1=>cH (hsg z1)<|aE _ rfl (fun hz=>?_) (fun hz=>?_)
   ·have e:=e1 (sign_lt.1 hz);have ht:=fun u=>nF vo u ((lst i g).map cn) (-1) k hsz.fit ((jL _ qE).mono h1k) qN (by rw[aBV];omega);rw[dX,e]at ht;refine cG (dZ (-1) qE qE) fun z2=>cZ (ht z2) (cD hvo) qS ?_;rintro r _ _ ⟨rfl,rfl⟩;exact aAi (aA qS)
   ·have e:=e2 (fun h=>hz (sign_lt.2 h));have hn:=yV vo (lst i g) (hsz.mono qN) qN;rw[e]at hn;refine cZ hn (cD hvo) qS ?_;rintro r _ _ ⟨rfl,rfl⟩;exact aAi (aA qS)
theorem oL(v:Value)(p:aAd)(k:Nat)(hp:szR k p)(h1k:1≤k)(hk:k≤34359738368)(lp:p.length≤536870912):aAb 172 [v] [(v,vd p)] (aW (vd (pprim p))):=by have h:=jP v (p.map cn) k hp.fit h1k hk (by rw[aBV];exact lp);rw[dX]at h;exact h
theorem rRestT(v w:Value)(p q:aAd)(k l:Nat)(hp:szR k p)(hq:szR l q)(h1l:1≤l)(hlk:l≤k)(lp:p.length≤1048576)(lq:q.length≤1048576)(hk:4*pks (rks k l p.length) l (p.length+2)≤34359738368):aAb 204 [v,w] [(v,vd p),(w,vd q)] (fun r os fs=>os=[]∧∃a b T R,(if dg q=0 then r=.tuple #[a,b,.int .i64 2]∧T=[]∧R=[]else r=.tuple #[a,b,.int .i64 0]∧RestSpec p q T R∧szR (pks (rks k l p.length) l (p.length+2)) T∧szR (pks (rks k l p.length) l (p.length+2)) R∧T.length≤p.length∧R.length≤p.length)∧fs=[(a,vd T),(b,vd R)]):=by have h:=rRest_meets v w (p.map cn) (q.map cn) k l hp.fit hq.fit h1l hlk (by rw[aBV];exact lp) (by rw[aBV];exact lq) (by rw[aBV];exact hk);simp only[dX,aBV]at h;exact h
def ce(n e:Nat):Nat→Nat
 |0=>e
 |j+1=>(2*n+4)*ce n e j+(3*n+6)
theorem pks_ce(n e:Nat):pks (rks e e n) e (n+2)=ce n e 1:=by
 show pks (rks e e n) e (n+2)=(2*n+4)*e+(3*n+6);unfold pks rks
 grind
theorem pks_le{m n e:Nat}(h:m≤n):pks (rks e e m) e (m+2)≤ce n e 1:=by rw[←pks_ce];have h1:(m+1)*(e+1)≤(n+1)*(e+1):=aBZ _ qN;have h2:(m+2)*(e+2)≤(n+2)*(e+2):=aBZ _ qN;unfold pks rks;omega
structure aBF(A B G:aAd):Prop where
 gn:Nm G
 one:0<dg G→cP G=1∧0<ld G
 zero:dg G=0→dg A=0∧dg B=0
 dv:∀h,cP h=1→(Dv h G↔Dv h A∧Dv h B)
theorem com_end{A B:aAd}(h0:dg B=0):aBF A B (pprim A) :=⟨mD _,fun h=>by rw[cN]at h;exact⟨fF h,oO h⟩,fun h=>by rw[cN]at h;exact⟨h,h0⟩,
  fun h hh=>by rw[yZ hh];exact⟨fun k=>⟨k,Dv.zero _ (cR.1 h0)⟩,fun k=>k.1⟩⟩
theorem com_step{A B T R G:aAd}(h0:0<dg B)(hs:RestSpec A B T R)(hG:aBF (pprim B) (pprim R) G):aBF A B G :=⟨hG.gn,hG.one,fun h=>by have:=(hG.zero h).1;rw[cN]at this;omega,fun h hh=>by
  have hk0:ld B^(dg A+1-dg B)≠0:=by
   have h0:=m8 h0;have:∀m:Nat,ld B^m≠0:=fun m=>by
    induction m with
    |zero=>rw[aDn];omega
    |succ m ih=>rw[aCi];exact aCY ih h0
   exact this _
  rw[hG.dv h hh,gcd_step hh hk0 hs.eq,yZ hh]⟩
theorem rCmpZ6(v w:Value)(x y:Int)(a:Nat)(hx:sz x a)(hy:sz y a)(ha:a≤137438953471):aAb 22 [v,w] [(v,zd x),(w,zd y)] (aAa (.int .i64 (x-y).sign)):=by have h:=fun y1 y2=>mN y1 y2 (decide (x<0)) (decide (y<0)) (bX x.natAbs) (bX y.natAbs) (aV _) (aV _) (aBW hx.len qN) (aBW hy.len qN);simp only[i8]at h;have hd:sz (x-y) (a+1):=jM hx hy;have hs:=fun z=>gX z (decide (x-y<0)) (bX (x-y).natAbs) (aV _) (aBW hd.len qN);simp only[i8]at hs;refine mV Tryz.func22 ?_;refine bD (aB (d:=zd x) qM) fun p hp=>bD (aB (d:=zd y) qM) fun q hq=>aD (d:=zd x) 1 rfl hp rfl (aM _ _) fun y1=>aD (d:=zd y) 0 rfl hq rfl (aM _ _) fun y2=>cG (h y1 y2) fun z=>cH (hs z)<|fin ⟨rfl,rfl,rfl⟩ (dS (dS (aH _ _)))
theorem rCmpJ6(v w:Value)(x y:Bool×aAe)(a:Nat)(hx:Lim x.2)(lx:x.2.length≤a)(hy:Lim y.2)(ly:y.2.length≤a)(ha:a≤137438953471):aAb 22 [v,w] [(v,J x),(w,J y)] (aAa (.int .i64 (jv x-jv y).sign)):=by have h:∀y1 y2,aAb 39 [y1,y2] [(y1,J x),(y2,J y)] (aW (zd (jv x-jv y))):=fun y1 y2=>mN y1 y2 x.1 y.1 x.2 y.2 hx hy qN qN;have hd:sz (jv x-jv y) (a+1):=jM (fB hx lx) (fB hy ly);have hs:=fun z=>gX z (decide (jv x-jv y<0)) (bX (jv x-jv y).natAbs) (aV _) (aBW hd.len qN);simp only[i8]at hs;refine mV Tryz.func22 ?_;refine bD (aB (d:=J x) qM) fun p hp=>bD (aB (d:=J y) qM) fun q hq=>aD (d:=J x) 1 rfl hp rfl (aR _) fun y1=>aD (d:=J y) 0 rfl hq rfl (aR _) fun y2=>cG (h y1 y2) fun z=>cH (hs z)<|fin ⟨rfl,rfl,rfl⟩ (dS (dS (aH _ _)))
theorem tay_end{w i:Int}(hw:w≠0)(l:aAd):pev (tay (2*w) (2*i+1) l) 1=0↔pev (tay w i l) 1=0:=by
 have h1:=tI (2*w) (2*i+1) 1 l;have h2:=tI w i 1 l;rw[show 2*i+1+1=2*(i+1)by omega,gh_hom,←h2]at h1
 constructor
 ·intro h;rw[h,aCu]at h1;have h3:=(aDj.1 h1.symm).resolve_left (aET qE);exact(aDj.1 h3).resolve_left hw
 ·intro h;rw[h,aCu,aCu]at h1;exact(aDj.1 h1).resolve_left qN
theorem unit_meets{u:aAd}{m J K:Nat}(hu:UOk u m J K)(h1K:1≤K)(hK:K≤17179869184):∀(d j i:Nat),j+d=J→i<2^j→∀v:Value, aAb 170 [v] [(v,vd (tay (2^j:Nat) i u))] (fun r os fs=>os=[]∧fs=[]∧∃c:Nat,r=.int .i64 (c:Int)∧c≤1000∧CC u m j i (c+if pev (tay (2^j:Nat) i u) 1=0 then 1 else 0)):=by
 intro d
 induction d with
 |zero =>
  intro j i hj hi v;obtain rfl:j=J:=qN;have hn:=yE (2^j:Nat) i hu.nm;have hl:=oH (2^j:Nat) i u;have hz:=hu.sz j i (aBY _) hi;have hul:=aCE.2 hu.ne;have hu6:=hu.len;have hT:∀x,pev (kK 1 (tay (2^j:Nat) i u).reverse) x=pev (tay (2^j:Nat) i u).reverse (x+1):=fun x=>iY _ _ _;have hfew:=hu.fine i _ hi hT;have hcc:=CC.desc hu.m1 hu.nm hu.ne hT hfew;have hmay:=zP v (tay (2^j:Nat) i u) K hz qN h1K hn qN qN;generalize vs 0 (kK 1 (tay (2^j:Nat) i u).reverse)=n at *;refine mV Tryz.func170 ?_;refine cH hmay<|cI rfl qN<|fin ⟨rfl,rfl,n,rfl,qN,hcc⟩ (aH _ _)
 |succ d ih =>
  intro j i hj hi v;have hn:=yE (2^j:Nat) i hu.nm;have hl:=oH (2^j:Nat) i u;have hz:=hu.sz j i qN hi;have hul:=aCE.2 hu.ne;have hu6:=hu.len;have hT:∀x,pev (kK 1 (tay (2^j:Nat) i u).reverse) x=pev (tay (2^j:Nat) i u).reverse (x+1):=fun x=>iY _ _ _;have hcc:=CC.desc (j:=j) (i:=(i:Int)) hu.m1 hu.nm hu.ne hT;have hmay:=zP v (tay (2^j:Nat) i u) K hz qN h1K hn qN qN;have hhalf:=halved_meets v (tay (2^j:Nat) i u) K hz qN hn qN qN;have hp:((2^(j+1):Nat):Int)=2*((2^j:Nat):Int):=by rw[aCa];omega
  have hw0:((2^j:Nat):Int)≠0:=by have:0<2^j:=aCq qE;omega
  have hi2:2*i+1<2^(j+1):=by rw[aCa];omega
  rw[halv_tay hw0 hu.nm,←hp,show 2*(i:Int)=((2*i:Nat):Int)by omega]at hhalf;have hw1:((2^(j+1):Nat):Int)≠0:=qN;have zl:=hu.sz (j+1) (2*i) qN qN;have zr:=hu.sz (j+1) (2*i+1) qN hi2;have ll:=oH (2^(j+1):Nat) ((2*i:Nat):Int) u;have hsh:∀y z,aAb 184 [y,z] [(y,vd (tay (2^(j+1):Nat) ((2*i:Nat):Int) u)),(z,zd 1)] (aW (vd (tay (2^(j+1):Nat) ((2*i+1:Nat):Int) u))):=fun y z=>by have:=rShiftJ y z ((tay (2^(j+1):Nat) ((2*i:Nat):Int) u).map cn) (cn 1) K 1 zl.fit h1K (aV _) (show(cn 1).2.length≤1 from(sm5 1 qE).len) qE (by rw[aBV];omega) (by rw[aBV];omega);rw[dX,dJ,shift_tay hw1 hu.nm,show((2*i:Nat):Int)+1=((2*i+1:Nat):Int)by omega]at this;exact this
  have ih1:=ih (j+1) (2*i) qN qN;have ih2:=ih (j+1) (2*i+1) qN hi2;have hat:∀y,aAb 109 [y,.int .i64 ((0:Nat):Int)] [(y,vd (tay (2^(j+1):Nat) ((2*i+1:Nat):Int) u))] (aW (zd ((tay (2^(j+1):Nat) ((2*i+1:Nat):Int) u).getD 0 0))):=fun y=>by have:=rAtN y ((tay (2^(j+1):Nat) ((2*i+1:Nat):Int) u).map cn) (zr.fit.mono qN) 0;rw[dX]at this;exact this
  have hsg:=fun y=>rSignZ y ((tay (2^(j+1):Nat) ((2*i+1:Nat):Int) u).getD 0 0) K (zr.get 0) qN;have aAj:(tay (2^(j+1):Nat) ((2*i+1:Nat):Int) u).getD 0 0=pev (tay (2^(j+1):Nat) ((2*i:Nat):Int) u) 1:=by rw[←ev_at0,show((2*i+1:Nat):Int)=((2*i:Nat):Int)+1 by omega,←shift_tay hw1 hu.nm,iY];rfl
  have hend:=tay_end (w:=((2^j:Nat):Int)) (i:=(i:Int)) hw0 u;rw[←hp,show 2*(i:Int)+1=((2*i+1:Nat):Int)by omega]at hend;have hjoin:∀c c':Nat,CC u m (j+1) ((2*i:Nat):Int) c→CC u m (j+1) ((2*i+1:Nat):Int) c'→CC u m j i (c+c'):=fun c c' h1 h2=>by rw[show((2*i:Nat):Int)=2*(i:Int)by omega]at h1;rw[show((2*i+1:Nat):Int)=2*(i:Int)+1 by omega]at h2;exact h1.join h2
  obtain⟨t,ht,htot⟩:=hu.tot;have hle:∀c:Nat,CC u m j i c→c≤t:=fun c h=>h.le htot hi;simp only[hend,←aAj]at ih1 ih2;generalize (tay (2^(j+1):Nat) ((2*i+1:Nat):Int) u).getD 0 0=mid at *;generalize vs 0 (kK 1 (tay (2^j:Nat) i u).reverse)=n at *;refine mV Tryz.func170 ?_;refine cH hmay<|aE _ rfl (fun h2=>?_) (fun h2=>?_)
  ·exact fin ⟨rfl,rfl,n,rfl,qN,hcc qN⟩ (aH _ _)
  refine cG hhalf fun lv=>cG (dZ 1 qE qE) fun ov=>cG (hsh lv ov) fun rv=>cF (ih1 lv) ?_;rintro _ _ _ ⟨rfl,rfl,c1,rfl,b1,k1⟩;refine cF (ih2 rv) ?_;rintro _ _ _ ⟨rfl,rfl,c2,rfl,b2,k2⟩;have k3:=hjoin _ _ k1 k2;have k4:=hle _ k3;refine ar rfl ⟨qN,qN⟩<|cG (hat rv) fun av=>cH (hsg av)<|aE _ rfl (fun hz0=>?_) (fun hz0=>?_)
  ·rw[aBX (uU.1 hz0)]at k3 k4;refine ar rfl ⟨qN,qN⟩<|fin ⟨rfl,rfl,c1+c2+1,aDA (Value.int .i64) (show(c1:Int)+c2+1=((c1+c2+1:Nat):Int)by omega),qN,?_⟩ (aH _ _);rw[show c1+c2+1+(if pev (tay (2^j:Nat) i u) 1=0 then 1 else 0)=c1+1+(c2+if pev (tay (2^j:Nat) i u) 1=0 then 1 else 0)by omega];exact k3
  ·rw[aBU fun h=>hz0 (uU.2 h)]at k3 k4;refine fin ⟨rfl,rfl,c1+c2,aDA (Value.int .i64) (show(c1:Int)+c2=((c1+c2:Nat):Int)by omega),qN,?_⟩ (aH _ _);rw[show c1+c2+(if pev (tay (2^j:Nat) i u) 1=0 then 1 else 0)=c1+0+(c2+if pev (tay (2^j:Nat) i u) 1=0 then 1 else 0)by omega];exact k3
theorem yU(v w u t:Value)(p:Row)(m y x:Bool×aAe)(k a:Nat)(hp:Fit k p)(lp:p.length≤1000)(hk:k≤1000000)(hm:Lim m.2)(hma:m.2.length≤a)(hy:Lim y.2)(hya:y.2.length≤a)(hx:Lim x.2)(hxa:x.2.length≤a)(ha:a≤1000000):aAb 14 [v,w,u,t] [(v,V p),(w,J m),(u,J y),(t,J x)] (aAa (.tuple #[.bool (lX (vv p) (jv m) (jv y) (jv x)).1,.int .i64 (lX (vv p) (jv m) (jv y) (jv x)).2])):=by
 have zm:=fB hm hma;have zy:=fB hy hya;have aAt:(p.length+2)*(a+1)≤1002*(a+1):=aBZ _ qN;have hsm:∀z,aAb 44 [z] [(z,J m)] (aAa (.int .i64 (jv m).sign)):=fun z=>gX z m.1 m.2 hm qN;have hsy:∀z,aAb 44 [z] [(z,J y)] (aAa (.int .i64 (jv y).sign)):=fun z=>gX z y.1 y.2 hy qN;have hv:=fun z=>rValueJ v z p x k a hp hx hxa qN qN;have zv:sz (pev (vv p) (jv x)) 1073741824:=(ev_sz hp.szR (fB hx hxa)).mono (by
  rw[cB];have:p.length*(a+1)≤1000*(a+1):=aBZ _ lp;omega)
 refine mV Tryz.func14 ?_;refine bD (aB (d:=J m) qM) fun b1 h1=>bD (aB (d:=J y) qM) fun b2 h2=>bD (aB (d:=J x) qM) fun b3 h3=>aD (d:=J m) 2 rfl h1 rfl (aR _) fun y1=>cH (hsm y1)<|aE _ rfl (fun hl=>?_) (fun hl=>?_)
 ·rw[show lX (vv p) (jv m) (jv y) (jv x)=(false,1)from aBX (.inl (vD.1 hl))];exact fin ⟨rfl,rfl,rfl⟩ (dS (dS (dS (aH _ _))))
 have hm1:¬jv m<1:=fun h=>hl (vD.2 h);refine aD (d:=J y) 1 rfl h2 rfl (aR _) fun y2=>cH (hsy y2)<|aE _ rfl (fun hl2=>?_) (fun hl2=>?_)
 ·rw[show lX (vv p) (jv m) (jv y) (jv x)=(false,1)from aBX (.inr (iR.1 hl2))];exact fin ⟨rfl,rfl,rfl⟩ (dS (dS (dS (aH _ _))))
 rw[show lX (vv p) (jv m) (jv y) (jv x)=(zN (pev (vv p) (jv x)) (jv m) (jv y),0)from aBU (fun h=>h.elim hm1 fun h=>hl2 (iR.2 h))];have hdm:∀z1 z2,aAb 37 [z1,z2] [(z1,zd (pev (vv p) (jv x))),(z2,J m)] (fun r os fs=>os=[]∧∃q s,r=.tuple #[q,s,.bool true]∧fs=[(q,zd (pev (vv p) (jv x)/jv m)),(s,zd (pev (vv p) (jv x)%jv m))]):=fun z1 z2=>by have:=rS z1 z2 (decide (pev (vv p) (jv x)<0)) m.1 (bX (pev (vv p) (jv x)).natAbs) m.2 (aV _) hm (aBW zv.len qE) qN (by show jv m≠0;omega);rw[i8]at this;exact this
 have hr:sz (pev (vv p) (jv x)%jv m) a:=by have h1:=aFw (pev (vv p) (jv x)) (show jv m≠0 by omega);have h2:=aGg (pev (vv p) (jv x)) (show 0<jv m by omega);clear zv hdm hv;unfold sz at *;omega
 have hne:zN (pev (vv p) (jv x)) (jv m) (jv y)=(decide (pev (vv p) (jv x)%jv m≤jv y)||decide (jv m-pev (vv p) (jv x)%jv m≤jv y)):=rfl;rw[hne];clear zv hne;generalize pev (vv p) (jv x)/jv m=Q at *;generalize pev (vv p) (jv x)%jv m=R at *;generalize pev (vv p) (jv x)=Z at *;have hc1:∀z1 z2,aAb 22 [z1,z2] [(z1,zd R),(z2,J y)] (aAa (.int .i64 (R-jv y).sign)):=fun z1 z2=>by have:=rCmpJ6 z1 z2 (cn R) y a (aV _) hr.len hy hya qN;rw[dJ]at this;exact this
 have hsb:∀z1 z2,aAb 39 [z1,z2] [(z1,J m),(z2,zd R)] (aW (zd (jv m-R))):=fun z1 z2=>by have:=mN z1 z2 m.1 (decide (R<0)) m.2 (bX R.natAbs) hm (aV _) qN (aBW hr.len qN);rw[i8]at this;exact this
 have hc2:∀z1 z2,aAb 22 [z1,z2] [(z1,zd (jv m-R)),(z2,J y)] (aAa (.int .i64 (jv m-R-jv y).sign)):=fun z1 z2=>by have:=rCmpJ6 z1 z2 (cn (jv m-R)) y (a+1) (aV _) (jM zm hr).len hy qN qN;rw[dJ]at this;exact this
 refine jN (X:=Value) (fun br=>([(5,b1),(6,b2),(11,br)],[bN br 2 1 (fun _=>zd R),bN b3 2 1 (fun _=>J x),bN b2 2 1 (fun _=>J y),bN b1 2 1 (fun _=>J m)],[])) mG ?_ ?_
 ·
   refine eH [0,1,2,3,4,5,6,9,10,11,7,12,8,13] qK<|a9 2 9 qK qK qK ?_ ?_
   ·refine a9 2 10 qK qK qK ?_ ?_
    ·refine a9 4 9 qK qK qK ?_ ?_
     ·refine a9 4 10 qK qK qK ?_ ?_
      ·refine a9 9 10 qK qK qK ?_ ?_
       ·refine cM [0,1,3,2,4,5,6,7,8,9,10,11,12,13] qK qK<|aD (d:=J x) 0 rfl h3 rfl (aR _) fun y3=>aD (d:=J m) 2 rfl h1 rfl (aR _) fun y4=>cG (hv y3) fun y5=>cF (hdm y5 y4) ?_;rintro _ _ _ ⟨rfl,q,r,rfl,rfl⟩;refine aG (d:=I false []) fun bq hbq=>aG (d:=I false []) fun br hbr=>aF (d:=zd Q) 1 rfl hbq rfl qK (aB (v:=q) qM)<|aF (d:=zd R) 0 rfl hbr rfl qK (aB (v:=r) qM)<|aS br hbr aB0 qF (aC (aZ 1 _ _) (aC (bE rfl) (aA (fs':=[]) qS)))
       ·refine cM [0,1,3,2,4,5,6,7,8,10,9,11,12,13] qK qK<|aD (d:=J x) 0 rfl h3 rfl (aR _) fun y3=>aD (d:=J m) 2 rfl h1 rfl (aR _) fun y4=>cG (hv y3) fun y5=>cF (hdm y5 y4) ?_;rintro _ _ _ ⟨rfl,q,r,rfl,rfl⟩;refine aG (d:=I false []) fun br hbr=>aG (d:=I false []) fun bq hbq=>aF (d:=zd Q) 0 rfl hbq rfl qK (aB (v:=q) qM)<|aF (d:=zd R) 1 rfl hbr rfl qK (aB (v:=r) qM)<|aS br hbr aB0 qF (dS (aC (bE rfl) (aA (fs':=[]) qS)))
      ·refine cM [0,1,3,2,10,4,5,6,7,8,9,11,12,13] qK qK<|aD (d:=J x) 0 rfl h3 rfl (aR _) fun y3=>aD (d:=J m) 2 rfl h1 rfl (aR _) fun y4=>cG (hv y3) fun y5=>aG (d:=I false []) fun br hbr=>cF (hdm y5 y4) ?_;rintro _ _ _ ⟨rfl,q,r,rfl,rfl⟩;refine aG (d:=I false []) fun bq hbq=>aF (d:=zd Q) 0 rfl hbq rfl qK (aB (v:=q) qM)<|aF (d:=zd R) 1 rfl hbr rfl qK (aB (v:=r) qM)<|aS br hbr aB0 qF (dS (aC (bE rfl) (aA (fs':=[]) qS)))
     ·refine a9 4 10 qK qK qK ?_ ?_
      ·refine cM [0,1,3,2,9,4,5,6,7,8,10,11,12,13] qK qK<|aD (d:=J x) 0 rfl h3 rfl (aR _) fun y3=>aD (d:=J m) 2 rfl h1 rfl (aR _) fun y4=>cG (hv y3) fun y5=>aG (d:=I false []) fun bq hbq=>cF (hdm y5 y4) ?_;rintro _ _ _ ⟨rfl,q,r,rfl,rfl⟩;refine aG (d:=I false []) fun br hbr=>aF (d:=zd Q) 1 rfl hbq rfl qK (aB (v:=q) qM)<|aF (d:=zd R) 0 rfl hbr rfl qK (aB (v:=r) qM)<|aS br hbr aB0 qF (aC (aZ 1 _ _) (aC (bE rfl) (aA (fs':=[]) qS)))
      ·refine a9 9 10 qK qK qK ?_ ?_
       ·refine cM [0,1,3,2,9,10,4,5,6,7,8,11,12,13] qK qK<|aD (d:=J x) 0 rfl h3 rfl (aR _) fun y3=>aD (d:=J m) 2 rfl h1 rfl (aR _) fun y4=>cG (hv y3) fun y5=>aG (d:=I false []) fun bq hbq=>aG (d:=I false []) fun br hbr=>cF (hdm y5 y4) ?_;rintro _ _ _ ⟨rfl,q,r,rfl,rfl⟩;refine aF (d:=zd Q) 1 rfl hbq rfl qK (aB (v:=q) qM)<|aF (d:=zd R) 0 rfl hbr rfl qK (aB (v:=r) qM)<|aS br hbr aB0 qF (aC (aZ 1 _ _) (aC (bE rfl) (aA (fs':=[]) qS)))
       ·refine cM [0,1,3,2,10,9,4,5,6,7,8,11,12,13] qK qK<|aD (d:=J x) 0 rfl h3 rfl (aR _) fun y3=>aD (d:=J m) 2 rfl h1 rfl (aR _) fun y4=>cG (hv y3) fun y5=>aG (d:=I false []) fun br hbr=>aG (d:=I false []) fun bq hbq=>cF (hdm y5 y4) ?_;rintro _ _ _ ⟨rfl,q,r,rfl,rfl⟩;refine aF (d:=zd Q) 0 rfl hbq rfl qK (aB (v:=q) qM)<|aF (d:=zd R) 1 rfl hbr rfl qK (aB (v:=r) qM)<|aS br hbr aB0 qF (dS (aC (bE rfl) (aA (fs':=[]) qS)))
    ·refine a9 4 9 qK qK qK ?_ ?_
     ·refine cM [0,1,3,10,2,4,5,6,7,8,9,11,12,13] qK qK<|aD (d:=J x) 0 rfl h3 rfl (aR _) fun y3=>aD (d:=J m) 2 rfl h1 rfl (aR _) fun y4=>aG (d:=I false []) fun br hbr=>cG (hv y3) fun y5=>cF (hdm y5 y4) ?_;rintro _ _ _ ⟨rfl,q,r,rfl,rfl⟩;refine aG (d:=I false []) fun bq hbq=>aF (d:=zd Q) 0 rfl hbq rfl qK (aB (v:=q) qM)<|aF (d:=zd R) 1 rfl hbr rfl qK (aB (v:=r) qM)<|aS br hbr aB0 qF (dS (aC (bE rfl) (aA (fs':=[]) qS)))
     ·refine cM [0,1,3,10,2,9,4,5,6,7,8,11,12,13] qK qK<|aD (d:=J x) 0 rfl h3 rfl (aR _) fun y3=>aD (d:=J m) 2 rfl h1 rfl (aR _) fun y4=>aG (d:=I false []) fun br hbr=>cG (hv y3) fun y5=>aG (d:=I false []) fun bq hbq=>cF (hdm y5 y4) ?_;rintro _ _ _ ⟨rfl,q,r,rfl,rfl⟩;refine aF (d:=zd Q) 0 rfl hbq rfl qK (aB (v:=q) qM)<|aF (d:=zd R) 1 rfl hbr rfl qK (aB (v:=r) qM)<|aS br hbr aB0 qF (dS (aC (bE rfl) (aA (fs':=[]) qS)))
   ·refine a9 2 10 qK qK qK ?_ ?_
    ·refine a9 4 10 qK qK qK ?_ ?_
     ·refine cM [0,1,3,9,2,4,5,6,7,8,10,11,12,13] qK qK<|aD (d:=J x) 0 rfl h3 rfl (aR _) fun y3=>aD (d:=J m) 2 rfl h1 rfl (aR _) fun y4=>aG (d:=I false []) fun bq hbq=>cG (hv y3) fun y5=>cF (hdm y5 y4) ?_;rintro _ _ _ ⟨rfl,q,r,rfl,rfl⟩;refine aG (d:=I false []) fun br hbr=>aF (d:=zd Q) 1 rfl hbq rfl qK (aB (v:=q) qM)<|aF (d:=zd R) 0 rfl hbr rfl qK (aB (v:=r) qM)<|aS br hbr aB0 qF (aC (aZ 1 _ _) (aC (bE rfl) (aA (fs':=[]) qS)))
     ·refine cM [0,1,3,9,2,10,4,5,6,7,8,11,12,13] qK qK<|aD (d:=J x) 0 rfl h3 rfl (aR _) fun y3=>aD (d:=J m) 2 rfl h1 rfl (aR _) fun y4=>aG (d:=I false []) fun bq hbq=>cG (hv y3) fun y5=>aG (d:=I false []) fun br hbr=>cF (hdm y5 y4) ?_;rintro _ _ _ ⟨rfl,q,r,rfl,rfl⟩;refine aF (d:=zd Q) 1 rfl hbq rfl qK (aB (v:=q) qM)<|aF (d:=zd R) 0 rfl hbr rfl qK (aB (v:=r) qM)<|aS br hbr aB0 qF (aC (aZ 1 _ _) (aC (bE rfl) (aA (fs':=[]) qS)))
    ·refine a9 9 10 qK qK qK ?_ ?_
     ·refine cM [0,1,3,9,10,2,4,5,6,7,8,11,12,13] qK qK<|aD (d:=J x) 0 rfl h3 rfl (aR _) fun y3=>aD (d:=J m) 2 rfl h1 rfl (aR _) fun y4=>aG (d:=I false []) fun bq hbq=>aG (d:=I false []) fun br hbr=>cG (hv y3) fun y5=>cF (hdm y5 y4) ?_;rintro _ _ _ ⟨rfl,q,r,rfl,rfl⟩;refine aF (d:=zd Q) 1 rfl hbq rfl qK (aB (v:=q) qM)<|aF (d:=zd R) 0 rfl hbr rfl qK (aB (v:=r) qM)<|aS br hbr aB0 qF (aC (aZ 1 _ _) (aC (bE rfl) (aA (fs':=[]) qS)))
     ·refine cM [0,1,3,10,9,2,4,5,6,7,8,11,12,13] qK qK<|aD (d:=J x) 0 rfl h3 rfl (aR _) fun y3=>aD (d:=J m) 2 rfl h1 rfl (aR _) fun y4=>aG (d:=I false []) fun br hbr=>aG (d:=I false []) fun bq hbq=>cG (hv y3) fun y5=>cF (hdm y5 y4) ?_;rintro _ _ _ ⟨rfl,q,r,rfl,rfl⟩;refine aF (d:=zd Q) 0 rfl hbq rfl qK (aB (v:=q) qM)<|aF (d:=zd R) 1 rfl hbr rfl qK (aB (v:=r) qM)<|aS br hbr aB0 qF (dS (aC (bE rfl) (aA (fs':=[]) qS)))
 rintro br hbr;simp only;refine aY [0,1,2,3,4,5,6,8,7,9,10,11,12,13] [0,1,2,3,4,5,6,7,8,9,10,11,12,13] qK qK<|aD (d:=zd R) 0 rfl hbr rfl (aM _ _) fun y3=>aD (d:=J y) 2 rfl h2 rfl (aR _) fun y4=>cH (hc1 y3 y4)<|aE _ rfl (fun hle=>?_) (fun hle=>?_)
 ·rw[aCn (show R≤jv y by have:=wC.1 hle;omega),Bool.true_or];exact fin ⟨rfl,rfl,rfl⟩ (dS (dS (dS (dS (aH _ _)))))
 ·rw[aCg (show ¬R≤jv y from fun h=>hle (wC.2 qN)),Bool.false_or];refine aD (d:=J m) 3 rfl h1 rfl (aR _) fun y5=>aD (d:=zd R) 0 rfl hbr rfl (aM _ _) fun y6=>aD (d:=J y) 2 rfl h2 rfl (aR _) fun y7=>cG (hsb y5 y6) fun y8=>cH (hc2 y8 y7)<|aE _ rfl (fun hle2=>?_) (fun hle2=>?_)
  ·rw[aCn (show jv m-R≤jv y by have:=wC.1 hle2;omega)];exact fin ⟨rfl,rfl,rfl⟩ (dS (dS (dS (dS (aH _ _)))))
  ·rw[aCg (show ¬jv m-R≤jv y from fun h=>hle2 (wC.2 qN))];exact fin ⟨rfl,rfl,rfl⟩ (dS (dS (dS (dS (aH _ _)))))
theorem wJ(v:Value)(x:Bool×aAe)(a:Nat)(hx:Lim x.2)(hxa:x.2.length≤a)(ha:a≤1000000):aAb 90 [v] [(v,J x)] (aW (J (rD x))):=by
 have hs:∀z,aAb 44 [z] [(z,J x)] (aAa (.int .i64 (jv x).sign)):=fun z=>gX z x.1 x.2 hx qN;refine mV Tryz.func90 ?_;refine bD (aB (d:=J x) qM) fun b1 h1=>aG (d:=I false []) fun o ho=>aD (d:=J x) 1 rfl h1 rfl (aR _) fun y1=>cH (hs y1)<|aE _ rfl (fun h0=>?_) (fun h0=>?_)
 ·rw[show rD x=cn 1 from aBX (uU.1 h0)];refine cG (dZ 1 qE qE) fun y2=>aF (d:=zd 1) 0 rfl ho rfl qK (aB (v:=y2) qM)<|aD (d:=zd 1) 0 rfl ho rfl (aM _ _) fun r=>aAi (dS (dS (aA (fs':=[(r,zd 1)]) qS)))
 ·rw[show rD x=x from aBU fun h=>h0 (uU.2 h)];refine aD (d:=J x) 1 rfl h1 rfl (aR _) fun y2=>aF (d:=J x) 0 rfl ho rfl qK (aB (v:=y2) qM)<|aD (d:=J x) 0 rfl ho rfl (aR _) fun r=>aAi (dS (dS (aA (fs':=[(r,J x)]) qS)))
theorem rPowerJ(v:Value)(xj:Bool×aAe)(n a:Nat)(hx:Lim xj.2)(hxa:xj.2.length≤a)(hk:(n+1)*(a+1)≤137438953472):aAb 42 [v,.int .i64 (n:Nat)] [(v,J xj)] (aW (zd (jv xj^n))):=by
 have zx:=fB hx hxa;have hm1:(n+1)*(a+1)=n*(a+1)+(a+1):=aC8 _ _;have hm2:n≤n*(a+1):=aCX _ qN;have hp:∀i,i≤n→sz (jv xj^i) (n*(a+1)+1):=fun i hi=>(kH zx i).mono (by
  have h2:i*a≤n*(a+1):=aCb hi qN;omega)
 refine mV Tryz.func42 ?_;refine iQ (aB (d:=J xj) qM) fun px=>aG (d:=I false []) fun o ho=>cG (dZ 1 qE qE) fun y0=>aG (d:=I false []) fun s hs=>aF (d:=zd 1) 0 rfl hs rfl qK ?_ ?_;exact aB qM;refine aO (X:=Nat) (fun i=>([(1,.int .i64 (n:Nat)),(2,px),(4,o),(5,s),(6,.int .i64 (i:Nat))],[bN s 2 1 (fun _=>zd (jv xj^i)),bN o 2 1 (fun _=>I false [])],[(px,.ptr (J xj))])) (fun i=>i≤n) (fun i=>n-i) rfl ?_ ?_
 ·exact aS 0 (aB3 _) aB0 qF (aC (bE (by rw[aDn];rfl)) (aA qS))
 ·rintro i hi;refine aE _ rfl (fun hlt=>?_) (fun hlt=>?_)
  ·have hnx:=fun u u'=>rMulZJ u u' (jv xj^i) xj (n*(a+1)+1) (hp i hi) qN hx qN;rw[←aCi]at hnx;refine aD (d:=zd (jv xj^i)) 0 rfl hs rfl (aM _ _) fun y1=>aK (d:=J xj) qM (aR _) fun y2=>cG (hnx y1 y2) fun y3=>aF (d:=zd (jv xj^(i+1))) 0 rfl hs rfl qK ?_ ?_;exact aB qM;refine ar rfl qI<|aS (i+1) qN qO qF (aC (bE rfl) (aA qS))
  ·have hin:i=n:=qN;subst hin;refine aD (d:=zd (jv xj^i)) 0 rfl hs rfl (aM _ _) fun y1=>aF (d:=zd (jv xj^i)) 1 rfl ho rfl qK ?_ ?_;exact aB qM;refine aD (d:=zd (jv xj^i)) 1 rfl ho rfl (aM _ _) fun r=>aAi (dS (dS (aA (fs':=[(r,zd (jv xj^i))]) qS)))
theorem wH(v w u:Value)(t y:Bool×aAe)(s:Nat×Nat)(a:Nat)(ht:Lim t.2)(hta:t.2.length≤a)(hy:Lim y.2)(hya:y.2.length≤a)(ha:a≤100000)(hs:s.1≤1000∧s.2≤1000):aAb 45 [v,w,u] [(v,J t),(w,J y),(u,spE s)] (aW (zd (i9 (eF (jv t)) (eF (jv y)) s))):=by
 have zt:=xR ht hta;have zy:=xR hy hya;have h1t:=fun z=>wJ z t a ht hta qN;have h1y:=fun z=>wJ z y a hy hya qN;have hb:∀i,i≤1000→(i+1)*(a+1+1)≤1001*(a+2):=fun i hi=>aCb qN qN;have hpt:=fun z=>rPowerJ z (rD t) s.1 (a+1) zt.1 zt.2 (by have:=hb s.1 hs.1;omega);have hpy:=fun z=>rPowerJ z (rD y) s.2 (a+1) zy.1 zy.2 (by have:=hb s.2 hs.2;omega);have z1:sz (jv (rD t)^s.1) (1000*(a+1)+1):=(kH (fB zt.1 zt.2) _).mono (aDT (aBZ _ hs.1));have z2:sz (jv (rD y)^s.2) (1000*(a+1)+1):=(kH (fB zy.1 zy.2) _).mono (aDT (aBZ _ hs.2));have hmu:=fun z z'=>rMulZZ' z z' _ _ _ z1 z2 qN;have e:i9 (eF (jv t)) (eF (jv y)) s=jv (rD t)^s.1*jv (rD y)^s.2:=by unfold i9;rw[jv_lstJ,jv_lstJ]
 rw[e];obtain⟨s1,s2⟩:=s;simp only at hpt hpy hmu⊢;refine mV Tryz.func45 ?_;refine bD (aB (d:=J t) qM) fun b1 h1=>bD (aB (d:=J y) qM) fun b2 h2=>bD (aB (d:=spE (s1,s2)) qM) fun b3 h3=>aG (d:=I false []) fun o ho=>aY [0,2,3,5,7,8,1,4,6,9,10,11] [0,1,2,3,4,5,6,7,8,9,10,11] qK qK<|aD (d:=J t) 3 rfl h1 rfl (aR _) fun y1=>fC h3 0 rfl qE<|aI 1 rfl (bC (aL _))<|aD (d:=J y) 2 rfl h2 rfl (aR _) fun y2=>fC h3 1 rfl qE<|aI 1 rfl (aU (aL _))<|cG (h1t y1) fun y3=>cG (hpt y3) fun y4=>cG (h1y y2) fun y5=>cG (hpy y5) fun y6=>cG (hmu y4 y6) fun y7=>aF (d:=zd (jv (rD t)^s1*jv (rD y)^s2)) 0 rfl ho rfl qK (aB qM)<|aD (d:=zd (jv (rD t)^s1*jv (rD y)^s2)) 0 rfl ho rfl (aM _ _) fun r=>aAi (dS (dS (dS (dS (aA qS)))))
def wA(c:Bool×aAe)(i j:Nat):List Row:=List.replicate i []++[List.replicate j z0++[c]]
theorem oK(v:Value)(c:Bool×aAe)(i j:Nat)(hi:i≤1000)(hj:j≤1000):aAb 60 [v,.int .i64 (i:Nat),.int .i64 (j:Nat)] [(v,J c)] (aW (W (wA c i j))):=by
 refine mV Tryz.func60 ?_;refine bD (aB (d:=J c) qM) fun b1 h1=>fI (size:=1) (α:=Row) V [] qE fun g0 hg0=>aO (X:=Nat×Value) (fun x=>([(1,.int .i64 (i:Nat)),(2,.int .i64 (j:Nat)),(3,b1),(7,x.2)],[fV 1 V [] x.2 (List.replicate x.1 []),bN b1 2 1 (fun _=>J c)],[])) (fun x=>x.1≤i∧isSl x.2) (fun x=>i-x.1) rfl ?_ ?_
 ·exact aS (0,g0) ⟨aB3 _,hg0⟩ aB0 qF (aA qS)
 rintro⟨k,g⟩ ⟨hk,hg⟩;simp only at hk hg⊢;refine eJ 0 rfl hg fun _=>aE _ rfl (fun hlt=>?_) (fun hlt=>?_)
 ·rw[aDz]at hlt;refine empty_F (size:=2) (e:=26) J z0 qE fun e0=>fY (size:=1) (e:=22) V [] [] qE (aB (v:=e0) (d:=V []) qM) rfl fun l1=>cW (size:=1) (e:=22) (f:=V) (z:=[]) (l:=List.replicate k []) (m:=[[]]) 0 rfl hg (bA qM) (by simp;omega) (by simp;omega) fun g2 hg2=>aS (k+1,g2) ⟨qO,hg2⟩ qO qF ?_;simp only[aF4];exact aA qS
 rw[aDz]at hlt;have hki:k=i:=qN;subst hki;clear hlt;refine fI (size:=2) (e:=26) J z0 qE fun r0 hr0=>aO (X:=Nat×Value) (fun x=>([(2,.int .i64 (j:Nat)),(3,b1),(7,g),(8,x.2)],[fV 2 J z0 x.2 (List.replicate x.1 z0),fV 1 V [] g (List.replicate k []),bN b1 2 1 (fun _=>J c)],[])) (fun x=>x.1≤j∧isSl x.2) (fun x=>j-x.1) rfl ?_ ?_
 ·exact aS (0,r0) ⟨aB3 _,hr0⟩ aB0 qF (aA qS)
 rintro⟨l,r⟩ ⟨hl,hr⟩;simp only at hl hr⊢;refine eJ 0 rfl hr fun _=>aE _ rfl (fun hlt=>?_) (fun hlt=>?_)
 ·rw[aDz]at hlt;refine lS (da:=.one (.bool false)) (db:=U []) (fun S w=>⟨[.bool false],[.slice none 0 0],rfl,eG S w,gJ S w 1 _⟩) fun z=>fY (size:=2) J z0 z0 qE (aB (v:=z) (d:=J z0) qM) rfl fun l1=>cW (size:=2) (e:=26) (f:=J) (z:=z0) (l:=List.replicate l z0) (m:=[z0]) 0 rfl hr (bA qM) (by simp;omega) (by simp;omega) fun r2 hr2=>aS (l+1,r2) ⟨qO,hr2⟩ qO qF ?_;simp only[aF4];exact aA qS
 rw[aDz]at hlt;have hlj:l=j:=qN;subst hlj;refine aD (d:=J c) 2 rfl h1 rfl (aR _) fun y1=>fY (size:=2) J z0 c qE (aB (v:=y1) qM) rfl fun l1=>cW (size:=2) (e:=26) (f:=J) (z:=z0) (l:=List.replicate l z0) (m:=[c]) 0 rfl hr (bA qM) (by simp;omega) (by simp;omega) fun r2 hr2=>BuildSliceK.pre (Seals.L (f:=J) (z:=z0) 0 rfl hr2)<|fY (size:=1) (e:=22) V [] (List.replicate l z0++[c]) qE (aB (v:=r2) (d:=V (List.replicate l z0++[c])) qM) rfl fun l2=>cW (size:=1) (e:=22) (f:=V) (z:=[]) (l:=List.replicate k []) (m:=[List.replicate l z0++[c]]) 0 rfl hg (bA qM) (by simp;omega) (by simp;omega) fun g2 hg2=>aAi (aC (Seals.L (f:=V) (z:=[]) 0 rfl hg2) (dS (aA (fs':=[(g2,W (wA c k l))]) qS)))
theorem rAt17_meets(v w:Value){A:List Row}{G:List aAd}{k n:Nat}(s:Nat×Nat)(h:Lg A G k n)(hk:k≤137438953472)(hn:n≤1024):aAb 64 [v,w] [(v,W A),(w,spE s)] (aW (zd (gv G s.1 s.2))):=by
 obtain⟨s1,s2⟩:=s;have hr:=j0 v s1 h hk hn;have ha:∀z,aAb 109 [z,.int .i64 (s2:Nat)] [(z,vd (nrm (G.getD s1 [])))] (aW (zd (gv G s1 s2))):=fun z=>by have:=rAtN z ((nrm (G.getD s1 [])).map cn) ((h.g s1).1.nrm.fit.mono qN) s2;rw[dX,gH]at this;exact this
 simp only;refine mV Tryz.func64 ?_;refine bD (aB (d:=spE (s1,s2)) qM) fun b1 h1=>aG (d:=I false []) fun o ho=>aY [0,1,2,4,5,3,6,7] [0,1,2,3,4,5,6,7] qK qK<|fC h1 0 rfl qE<|aI 1 rfl (bC (aL _))<|fC h1 1 rfl qE<|aI 1 rfl (aU (aL _))<|cG (hr) fun y1=>cG (ha y1) fun y2=>aF (d:=zd (gv G s1 s2)) 0 rfl ho rfl qK (aB qM)<|aD (d:=zd (gv G s1 s2)) 0 rfl ho rfl (aM _ _) fun r=>aAi (dS (dS (aA qS)))
theorem wG(d n:Int)(hd:inK .i64 d)(hn:inK .i64 n):aAb 16 [.int .i64 d,.int .i64 n] [] (fun r os fs=>os=[]∧∃q,r=.tuple #[q,.int .i64 (shpR d n).2]∧fs=[(q,ShD (shpR d n).1)]):=by
 have bad:(d<1∨n<1∨24≤d∨24≤n∨24<(shp d.toNat n.toNat).length)→shpR d n=([],1):=fun h=>aBX h;have knil:∀os fs,Knw os fs (.slice none 0 0) (ShD []):=fun os fs=>c8 2 _;have aBa:=vC d.toNat n.toNat;refine mV Tryz.func16 ?_;refine aE _ rfl (fun h1=>?_) (fun h1=>?_)
 ·rw[bad (.inl h1)];exact fin ⟨rfl,_,rfl,rfl⟩ (a0 (knil _ _) (aH _ _))
 refine aE _ rfl (fun h2=>?_) (fun h2=>?_)
 ·rw[bad (.inr (.inl h2))];exact fin ⟨rfl,_,rfl,rfl⟩ (a0 (knil _ _) (aH _ _))
 refine aE _ rfl (fun h3=>?_) (fun h3=>?_)
 ·rw[bad (.inr (.inr (.inl qN)))];exact fin ⟨rfl,_,rfl,rfl⟩ (a0 (knil _ _) (aH _ _))
 refine aE _ rfl (fun h4=>?_) (fun h4=>?_)
 ·rw[bad (.inr (.inr (.inr (.inl qN))))];exact fin ⟨rfl,_,rfl,rfl⟩ (a0 (knil _ _) (aH _ _))
 obtain⟨d,rfl⟩:∃k:Nat,d=(k:Int):=⟨d.toNat,qN⟩;obtain⟨n,rfl⟩:∃k:Nat,n=(k:Int):=⟨n.toNat,qN⟩;have hd1:1≤d∧d≤24:=qN;have hn1:1≤n∧n≤24:=qN;rw[aCW,aCW]at aBa;clear h1 h2 h3 h4 hd hn;have hdn:d*n≤24*24:=aCb qN qN;refine fI (size:=2) spE (0,0) qE fun v0 hv0=>aO (X:=Nat×Value) (fun x=>([(0,.int .i64 (d:Int)),(1,.int .i64 (n:Int)),(6,x.2),(7,.int .i64 (x.1:Nat))],[fV 2 spE (0,0) x.2 (shN d n x.1)],[]))
  (fun x=>x.1≤n+1∧isSl x.2) (fun x=>n+1-x.1) rfl ?_ ?_
 ·exact aS (0,v0) ⟨aB3 _,hv0⟩ aB0 qF (aA qS)
 rintro⟨j,vo⟩ ⟨hj,hvo⟩;simp only at hj hvo⊢;have aAk:=shN_len (d:=d) (n:=n) qN qN j;refine aE _ rfl (fun hlt=>?_) (fun hlt=>?_)
 ·have hjn:j≤n:=qN;obtain⟨e,rfl⟩:∃e,n=j+e:=⟨n-j,qN⟩;have hde:d*(j+e)=d*j+d*e:=aB8 _ _ _;have h1:((d:Int)*((j:Nat):Int))=((d*j:Nat):Int):=(aCK d j).symm;have h2:((d:Int)*((j+e:Nat):Int))=((d*j+d*e:Nat):Int):=by rw[←hde];exact(aCK d (j+e)).symm
  have aBR:=shN_succ d (j+e) j;rw[show j+e-j=e by omega]at aBR;have hdj:d*j≤24*24:=aCb qN qN;have hdee:d*e≤24*24:=aCb qN qN;generalize shN d (j+e) j=T at *;generalize d*j=A at *;generalize d*e=B at *;refine aO (X:=Nat×Value) (fun x=>([(0,.int .i64 (d:Int)),(1,.int .i64 ((j+e:Nat):Int)),(6,x.2),(7,.int .i64 (j:Nat)),(8,.int .i64 (x.1:Nat))],[fV 2 spE (0,0) x.2 (T++(List.range x.1).map fun i=>(i,j))],[]))
   (fun x=>x.1≤B+1∧isSl x.2) (fun x=>B+1-x.1) rfl ?_ ?_
  ·refine aS (0,vo) ⟨aB3 _,hvo⟩ aB0 qF ?_;simp only[List.range_zero,aD5,aEC];exact aA qS
  rintro⟨i,vi⟩ ⟨hi,hvi⟩;simp only at hi hvi⊢;refine ar (n:=((A:Nat):Int)) (by simp only[arZ,aB5];exact h1) qI<|ar (n:=((i+A:Nat):Int)) (by simp[arZ]) qI<|ar (n:=((A+B:Nat):Int)) (by simp only[arZ,aB5];exact h2) qI<|aE _ rfl (fun aBb=>?_) (fun aBb=>?_)
  ·refine mZ<|fY (size:=2) spE (0,0) (i,j) qE (Reads.spot _ _) rfl fun l1=>cW 0 rfl hvi (bA qM) (by simp;omega) (by simp;omega) fun u2 hu2=>ar rfl qI<|aS (i+1,u2) ⟨qO,hu2⟩ qO qF ?_;simp only[aDZ,aCB,aC5,aD5,←aDU];exact aA qS
  ·have hie:i=B+1:=qN;subst hie;refine ar rfl qI<|aS (j+1,vi) ⟨qO,hvi⟩ qO qF ?_;simp only[aBR];exact aA qS
 ·have hjn:j=n+1:=qN;subst hjn;have hs:shN d n (n+1)=shp d n:=rfl;rw[hs]at aAk⊢;refine eJ 0 rfl hvo fun _=>aE _ rfl (fun hbg=>?_) (fun hbg=>?_)
  ·rw[bad (.inr (.inr (.inr (.inr (by rw[aCW,aCW];omega)))))];exact fin ⟨rfl,_,rfl,rfl⟩ (dS (a0 (knil _ _) (aH _ _)))
  ·have hdn2:d*1≤d*n:=aB6 _ qN;have hdn3:1*n≤d*n:=aBZ _ qN;have e:shpR (d:Nat) (n:Nat)=(shp d n,0):=by unfold shpR;rw[aBU (by rw[aCW,aCW];omega),aCW,aCW]
   rw[e];exact fin ⟨rfl,vo,rfl,rfl⟩ (aC (Seals.L 0 rfl hvo) (aA qS))
theorem mH{t:TypeId}[ht:TArr2 P t]{v:Value}{kk:IntKind}{x:Int}{d e:Dat}(hm:(v,.ptr d)∈fs)(j:Nat)(hj:x=(j:Int))(hlt:j<2)(hp:Part j d e)(k:∀q,K q os ((q,.ptr e)::fs)):fU P t v (.int kk x) os fs K:=by obtain⟨e',h1,h2,h3,h4,h5⟩:=ht.und;subst hj;refine⟨fun G w hw=>?_⟩;obtain⟨r,o,cs,rfl,g2,g3⟩:=(hw.facts _ hm).ptr;obtain⟨pre,cs',post,rfl,rfl,e3⟩:=hp _ _ _ g2;refine⟨.pointer (some ⟨r,o+pre.length,none⟩),_,fun w' _=>dY ?_,k _,hw.put (Rd.mk_ptr e3 g3.part)⟩;have h0:(0:Int)≤(pre.length:Int)∧(pre.length:Int)<2:=qN;simp[Instr.indexAt,asIntOf,run_underlying h1,Instr.sureAddr,bZ h3,h0,fR];intro h;omega
theorem xE(v w:Value)(a b:List (Nat×Nat)):aAb 19 [v,w] [(v,ShD a),(w,ShD b)] (aAa (.bool (decide (a=b)))):=by
 refine mV Tryz.func19 ?_;refine aT (v:=v) (n:=a.length) qM fun _=>aT (v:=w) (n:=b.length) qM fun _=>aE _ rfl (fun hne=>?_) (fun hne=>?_)
 ·rw[aCg (show ¬a=b from fun h=>hne (by rw[h]))];exact fin ⟨rfl,rfl,rfl⟩ (aH _ _)
 have aAk:a.length=b.length:=qN;refine aO (X:=Nat) (fun i=>([(0,v),(1,w),(5,.int .i64 (i:Nat))],[],[(v,ShD a),(w,ShD b)])) (fun i=>i≤a.length∧∀j,j<i→a.getD j (0,0)=b.getD j (0,0)) (fun i=>a.length-i) rfl ?_ ?_
 ·exact aS 0 ⟨aB3 _,fun j hj=>absurd hj (aCD _)⟩ aB0 qF (aA qS)
 rintro i ⟨hi,hij⟩;simp only at hi hij⊢;refine aT (v:=v) (n:=a.length) qM fun _=>aE _ rfl (fun hlt=>?_) (fun hlt=>?_)
 ·have hia:i<a.length:=qN;have hsa:a.getD i (0,0)=b.getD i (0,0)→∀j,j<i+1→a.getD j (0,0)=b.getD j (0,0):=fun e j hj=>by
   by_cases g:j=i
   ·rw[g];exact e
   ·exact hij j qN
  have no:a.getD i (0,0)≠b.getD i (0,0)→¬a=b:=fun h e=>h (by rw[e]);refine aY [0,1,2,3,4,5,6,7,8,9,10,11,12,13,14,15,16,17,18,19,20,21,22,23] [0,1,2,3,4,5,6,7,8,9,10,11,12,13,14,15,16,17,18,19,20,21,22,23] qK qK<|aJ (v:=v) qM i rfl qN fun a1=>mH (v:=a1) (d:=spE ((a).getD i (0,0))) qM 0 rfl qE (bC (aL _)) fun a2=>bI (p:=a2) qM<|aJ (v:=w) qM i rfl qN fun a1=>mH (v:=a1) (d:=spE ((b).getD i (0,0))) qM 0 rfl qE (bC (aL _)) fun a2=>bI (p:=a2) qM<|aE _ rfl (fun h1=>?_) (fun h1=>?_)
  ·rw[aCg (no fun e=>h1 (by rw[e]))];exact fin ⟨rfl,rfl,rfl⟩ (aH _ _)
  refine aJ (v:=v) qM i rfl qN fun a1=>mH (v:=a1) (d:=spE ((a).getD i (0,0))) qM 1 rfl qE (aU (aL _)) fun a2=>bI (p:=a2) qM<|aJ (v:=w) qM i rfl qN fun a1=>mH (v:=a1) (d:=spE ((b).getD i (0,0))) qM 1 rfl qE (aU (aL _)) fun a2=>bI (p:=a2) qM<|aE _ rfl (fun h2=>?_) (fun h2=>?_)
  ·rw[aCg (no fun e=>h2 (by rw[e]))];exact fin ⟨rfl,rfl,rfl⟩ (aH _ _)
  refine ar rfl qI<|aS (i+1) ⟨qN,hsa (Prod.ext qN qN)⟩ qO qF (aA qS)
 ·have hia:i=a.length:=qN;subst hia;rw[aCn (show a=b from eO (0,0) aAk hij)];exact fin ⟨rfl,rfl,rfl⟩ (aH _ _)
section
variable {m n:Nat} {b:Mx}
def xK(g:aAh):Nat→Int
 |0=>1
 |n+1=>xK g n*g n
theorem aAA{g:aAh}:∀ {n:Nat},(∀i,i<n→0<g i)→0<xK g n
 |0,_=>by show(0:Int)<1;decide
 |n+1,h=>aCk (aAA fun i hi=>h i qN) (h n qN)
end
theorem gev_map(G:List aAd)(x y:Int):gev G x y=pev (G.map fun r=>pev r y) x:=dH _ _
theorem gev_gone(c:Int)(i:Nat)(x y:Int):gev (rN c i) x y=c*x^i:=by rw[gev_map,rN,aCB,aFc];show pev (List.replicate i 0++_) x=_;rw[o4];simp[pev];grind
theorem gev_gless{p:aAd}(h:p≠[])(x y:Int):gev (jK p) x y=pev p x-y:=by
 cases p with
 |nil=>exact absurd rfl h
 |cons c l =>
  rw[gev_map,jK,aC5,aEQ];have e:(l.map ((fun r=>pev r y) ∘ fun c=>[c]))=l:=by
   conv=>rhs;rw[←aFJ l]
   exact aDQ fun z _=>by simp[pev]
  rw[e];simp[pev];grind
theorem lin_pow(C P:Int):∀j:Nat,∃q:aAd,(∀y,pev q y=C*(P-y)^j)∧(∀v,j<v→q.getD v 0=0)∧q.getD j 0=C*(-1)^j
 |0=>⟨[C],fun y=>by simp[pev],fun v hv=>by obtain⟨t,rfl⟩:∃t,v=t+1:=⟨v-1,qN⟩;simp,qP⟩
 |j+1=>by
  obtain⟨q,h1,h2,h3⟩:=lin_pow C P j;refine⟨padd (q.map fun z=>P*z) (0::q.map fun z=>(-1)*z),fun y=>?_,fun v hv=>?_,?_⟩
  ·have e1:pev (q.map fun z=>P*z) y=P*pev q y:=by rw[←cJ];exact(dH _ y).symm
   have e2:pev (q.map fun z=>(-1)*z) y=(-1)*pev q y:=by rw[←cJ];exact(dH _ y).symm
   rw[e9,pev,e1,e2,h1,aCi];grind
  ·obtain⟨t,rfl⟩:∃t,v=t+1:=⟨v-1,qN⟩;rw[l9,uP,aCy,uP,h2 _ qN,h2 _ qN];simp
  ·rw[l9,uP,aCy,uP,h2 _ qN,h3,aCi];grind
theorem gv_gtu_ev(G:List aAd)(x:Int)(v:Nat):gaf G x v=pev ((gtu G).getD v []) x:=gaf_eq G x v
section
variable {P:aAd} {m:Int} {n:Nat}
theorem matG_ev0{G:List aAd}{c:Int}{i j:Nat}(hG:G=gpw (jK (nrm P)) (rN c i) j)(h:nrm P≠[])(x y:Int):gev G x y=c*x^i*(pev P x-y)^j:=by rw[hG,gpw_ev,gev_gone,gev_gless h,dH]
theorem matG_top0{G:List aAd}{c:Int}{i j:Nat}(hG:G=gpw (jK (nrm P)) (rN c i) j)(h:nrm P≠[])(u v:Nat):(j<v→gv G u v=0)∧gv G u j=if u=i then c*(-1)^j else 0:=by
 have key:∀x,∃q:aAd,(∀w,gaf G x w=q.getD w 0)∧(∀v,j<v→q.getD v 0=0)∧q.getD j 0=c*x^i*(-1)^j:=fun x=>by obtain⟨q,h1,h2,h3⟩:=lin_pow (c*x^i) (pev P x) j;refine⟨q,fun w=>?_,h2,h3⟩;unfold gaf;exact mB (fun y=>by rw[gax_ev,matG_ev0 hG h,h1]) w
 constructor
 ·intro hv;have h0:∀x,pev ((gtu G).getD v []) x=pev [] x:=fun x=>by obtain⟨q,h1,h2,_⟩:=key x;rw[←gv_gtu_ev,h1,h2 v hv];rfl
  rw[←aAE];have:=mB h0 u;unfold gv;rw[this];simp
 ·have h0:∀x,pev ((gtu G).getD j []) x=pev (List.replicate i 0++[c*(-1)^j]) x:=fun x=>by obtain⟨q,h1,_,h3⟩:=key x;rw[←gv_gtu_ev,h1,h3,o4];simp[pev];grind
  rw[←aAE];have:=mB h0 u;unfold gv;rw[this]
  by_cases e:u=i
  ·subst e;rw[aBX rfl];simp[gE]
  ·rw[aBU e]
   by_cases g:u<i
   ·rw[gE,aCm (by simpa using g)];simp[g]
   ·rw[dC (l:=List.replicate i 0++[c*(-1)^j]) (by simp;omega)]
end
theorem shp_ord(d n:Nat):(shp d n).Pairwise fun a b=>a.2<b.2∨(a.2=b.2∧a.1<b.1):=by
 unfold shp;generalize n+1=m
 induction m with
 |zero=>exact List.Pairwise.nil
 |succ m ih =>
  rw[aDZ,aF8];refine aEc.2 ⟨ih,?_,fun a ha b hb=>?_⟩
  ·simp only[aFh,aFT,aEC];refine List.Pairwise.map _ (R:=fun a b=>a<b) (fun a b h=>.inr ⟨rfl,h⟩) List.pairwise_lt_range
  ·simp only[aFQ,aDX,aCo]at ha;simp only[aFh,aFT,aEC,aCo]at hb;obtain⟨j,hj,i,_,rfl⟩:=ha;obtain⟨i',_,rfl⟩:=hb;exact .inl hj
theorem shp_lt{d n r c:Nat}(hr:r<c)(hc:c<(shp d n).length):((shp d n).getD r (0,0)).2<((shp d n).getD c (0,0)).2∨(((shp d n).getD r (0,0)).2=((shp d n).getD c (0,0)).2∧((shp d n).getD r (0,0)).1<((shp d n).getD c (0,0)).1):=by have:=aEx.1 (shp_ord d n) r c qN hc hr;simp only[gE,aB2 hc,aB2 (show r<(shp d n).length by omega),aDr];exact this
theorem det_low:∀(n:Nat) (A:Mx),(∀i j,i<j→j<n→A i j=0)→det n A=xK (fun i=>A i i) n
 |0,_,_=>rfl
 |n+1,A,h=>by
  rw[det_block' n 1 A fun i j h1 h2 h3=>h i j qN qN,det_low n A fun i j h1 h2=>h i j h1 qN,xK]
  congr 1
  simp[det,dK,sg_zero]
theorem gev_fev{G:List aAd}{n:Nat}(h1:G.length≤n)(h2:∀i,(G.getD i []).length≤n)(x y:Int):gev G x y=fev (gv G) n x y:=gev_sum h1 h2 x y
theorem fev_one{u v n:Nat}(c:Int)(hu:u<n)(hv:v<n)(x y:Int):fev (fun i j=>if (u,v)=(i,j)then c else 0) n x y=c*(x^u*y^v):=by
 unfold fev;rw[uC hu _ fun i hi=>by
  have:(fun j=>y^j*if (u,v)=(i,j)then c else 0)=fun _=>0:=by
   funext j
   rw[aBU fun e=>hi (Prod.mk.inj e).1.symm,aCu]
  rw[this,rG,aCu]]
 rw[uC hv _ fun j hj=>by show y^j*(if (u,v)=(u,j)then c else 0)=0;rw[aBU fun e=>hj (Prod.mk.inj e).2.symm,aCu]];show x^u*(y^v*(if (u,v)=(u,v)then c else 0))=_;rw[aBX rfl];grind
section
variable {s:List (Nat×Nat)} {T Y:Int}
theorem gFs_add{R:aAd}(hn:s.Nodup){k:Nat}(hk:k<s.length)(u v:Nat):gFs s T Y R (k+1) u v=gFs s T Y R k u v+if s.getD k (0,0)=(u,v)then R.getD k 0/i9 T Y (s.getD k (0,0))else 0:=by
 rw[gFs]
 split
 ·rename_i e;rw[e,aAO k fun j hj e2=>by have:=nd_get hn qN hk (e2.trans e.symm);omega];simp
 ·simp
theorem gFs_fev{R:aAd}(hn:s.Nodup){b:Nat}(hb:∀p,p∈s→p.1<b∧p.2<b)(x y:Int):∀K,K≤s.length→fev (gFs s T Y R K) b x y=dK (fun k=>R.getD k 0/i9 T Y (s.getD k (0,0))*(x^(s.getD k (0,0)).1*y^(s.getD k (0,0)).2)) K
 |0,_=>fev_zero _ _ _
 |K+1,h=>by
  have hp:=hb _ (dV (0,0) (show K<s.length by omega));have e:gFs s T Y R (K+1)=fun u v=>gFs s T Y R K u v+if s.getD K (0,0)=(u,v)then R.getD K 0/i9 T Y (s.getD K (0,0))else 0:=by funext u v;exact gFs_add hn qN u v
  rw[e,fev_add,gFs_fev hn hb x y K qN];have e2:∀pp:Nat×Nat,pp.1<b∧pp.2<b→∀c:Int,fev (fun u v=>if pp=(u,v)then c else 0) b x y=c*(x^pp.1*y^pp.2):=fun pp h c=>fev_one c h.1 h.2 x y;rw[e2 _ hp];rfl
end
def amat(P:aAd)(m:Int)(d n:Nat)(T Y:Int):Mx:=fun r c=>gv (xI P m n ((shp d n).getD r (0,0))) ((shp d n).getD c (0,0)).1 ((shp d n).getD c (0,0)).2*i9 T Y ((shp d n).getD c (0,0))
structure SzOk(P:aAd)(m:Int)(d n:Nat)(T Y:Int):Prop where
 dg:dg P=d+1
 d1:1≤d
 m1:1≤m
 T1:1≤T
 Y1:1≤Y
 len:(shp d n).length≤24
section
variable {P:aAd} {m:Int} {d n:Nat} {T Y:Int}
theorem SzOk.small(h:SzOk P m d n T Y){p:Nat×Nat}(hp:p∈shp d n):p.1≤23∧p.2≤n∧p.1≤d*(n-p.2)∧n≤23:=by have h1:=vC d n;have h2:=h.len;have h3:=h.d1;obtain⟨x,y⟩:=p;have h4:=vB.1 hp;have h5:d*(n-y)≤d*n:=aB6 _ qN;have h6:1*n≤d*n:=aBZ _ h3;exact⟨qO,h4.1,h4.2,qN⟩
theorem SzOk.ne(h:SzOk P m d n T Y):nrm P≠[]:=fun e=>by have h1:=h.dg;unfold Go.Proofs.YtjebljkoiaojaaaGreat.dg at h1;rw[e]at h1;simp at h1
theorem SzOk.scl(h:SzOk P m d n T Y)(p:Nat×Nat):0<i9 T Y p:=by have h1:=h.T1;have h2:=h.Y1;exact aCk (aDk qN) (aDk qN)
theorem SzOk.top(h:SzOk P m d n T Y)(s:Nat×Nat)(u v:Nat):(s.2<v→gv (xI P m n s) u v=0)∧gv (xI P m n s) u s.2=if u=s.1 then m^(n-s.2)*(-1)^s.2 else 0:=matG_top0 rfl h.ne u v
theorem SzOk.low(h:SzOk P m d n T Y){r c:Nat}(hr:r<c)(hc:c<(shp d n).length):gv (xI P m n ((shp d n).getD r (0,0))) ((shp d n).getD c (0,0)).1 ((shp d n).getD c (0,0)).2=0:=by
 have h1:=shp_lt hr hc;have h2:=h.top ((shp d n).getD r (0,0)) ((shp d n).getD c (0,0)).1 ((shp d n).getD c (0,0)).2;rcases h1 with g|⟨g,g2⟩
 ·exact h2.1 g
 ·have:=h2.2;rw[g]at this;rw[this,aBU qN]
theorem SzOk.diag(h:SzOk P m d n T Y)(c:Nat):gv (xI P m n ((shp d n).getD c (0,0))) ((shp d n).getD c (0,0)).1 ((shp d n).getD c (0,0)).2=m^(n-((shp d n).getD c (0,0)).2)*(-1)^((shp d n).getD c (0,0)).2:=by rw[(h.top ((shp d n).getD c (0,0)) ((shp d n).getD c (0,0)).1 0).2,aBX rfl]
theorem SzOk.det(h:SzOk P m d n T Y):det (shp d n).length (amat P m d n T Y)=xK (fun k=>m^(n-((shp d n).getD k (0,0)).2)*(-1)^((shp d n).getD k (0,0)).2*i9 T Y ((shp d n).getD k (0,0))) (shp d n).length:=by
 rw[det_low _ _ fun i j hi hj=>by unfold amat;rw[h.low hi hj,aDe]]
 congr 1
 funext k
 unfold amat;rw[h.diag]
theorem m1pow(j:Nat):((-1:Int)^j).natAbs=1:=by
 induction j with
 |zero=>rfl
 |succ j ih=>rw[aCi,aCP,ih];rfl
theorem iprod_abs(f g:aAh):∀ {N:Nat},(∀k,k<N→(f k).natAbs=(g k).natAbs)→(xK f N).natAbs=(xK g N).natAbs
 |0,_=>rfl
 |N+1,h=>by rw[xK,xK,aCP,aCP,iprod_abs f g fun k hk=>h k qN,h N qN]
theorem SzOk.det_abs(h:SzOk P m d n T Y):((Go.Proofs.YtjebljkoiaojaaaGreat.det (shp d n).length (amat P m d n T Y)).natAbs:Int)=xK (fun k=>m^(n-((shp d n).getD k (0,0)).2)*i9 T Y ((shp d n).getD k (0,0))) (shp d n).length:=by
 rw[h.det,iprod_abs _ (fun k=>m^(n-((shp d n).getD k (0,0)).2)*i9 T Y ((shp d n).getD k (0,0))) fun k _=>by rw[aCP,aCP,aCP,m1pow,aDW]];have hp:0<xK (fun k=>m^(n-((shp d n).getD k (0,0)).2)*i9 T Y ((shp d n).getD k (0,0))) (shp d n).length:=aAA fun k _=>aCk (aDk (by have:=h.m1;omega)) (h.scl _);omega
theorem SzOk.det_ne(h:SzOk P m d n T Y):Go.Proofs.YtjebljkoiaojaaaGreat.det (shp d n).length (amat P m d n T Y)≠0:=by have h1:=h.det_abs;have hp:0<xK (fun k=>m^(n-((shp d n).getD k (0,0)).2)*i9 T Y ((shp d n).getD k (0,0))) (shp d n).length:=aAA fun k _=>aCk (aDk (by have:=h.m1;omega)) (h.scl _);omega
variable {U:aAh} {R:aAd}
end
def cbd(M:Nat)(l:aAd):Prop:=∀i,(l.getD i 0).natAbs≤M
theorem cbd.szR{M k:Nat}{l:aAd}(h:cbd M l)(hm:M<18446744073709551616^k):szR k l:=fun x hx=>by obtain⟨i,hi,rfl⟩:=aDi.1 hx;have:=h i;rw[gE,aB2 hi]at this;exact aC3 this hm
def dle(D:Int)(l:aAd):Prop:=∀i:Nat,l.getD i 0≠0→(i:Int)≤D
theorem dle.mono{D E:Int}{l:aAd}(h:dle D l)(hd:D≤E):dle E l:=fun i hi=>Int.le_trans (h i hi) hd
theorem dle.padd{D:Int}{l m:aAd}(h:dle D l)(h':dle D m):dle D (padd l m):=fun i hi=>by
 rw[l9]at hi
 by_cases e:l.getD i 0=0
 ·exact h' i qN
 ·exact h i e
theorem dle.ptim{D c:Int}{l:aAd}(h:dle D l):dle D (ptim c l):=fun i hi=>by rw[o7]at hi;exact h i fun e=>hi (by rw[e,aCu])
theorem co_pmul(l m:aAd)(y:Nat):(pmul l m).getD y 0=0∨(pmul l m).getD y 0=conv (nrm l) (nrm m) (nrm l).length y:=by
 unfold pmul;simp only
 split
 ·exact .inl qP
 ·rw[gH,oW]
  split
  ·exact .inr rfl
  ·exact .inl rfl
theorem isum_some{g:aAh}{n:Nat}(h:dK g n≠0):∃t,t<n∧g t≠0:=aCR fun hn=>h (fM fun t ht=>aCR fun e=>hn ⟨t,ht,e⟩)
theorem dle.pmul{D E:Int}{l m:aAd}(h:dle D l)(h':dle E m):dle (D+E) (pmul l m):=fun y hy=>by
 rcases co_pmul l m y with e|e
 ·exact absurd e hy
 ·rw[e]at hy;obtain⟨t,_,ht⟩:=isum_some hy
  split at ht
  ·rename_i hty;rw[gH,gH]at ht;have h1:=h t fun e=>ht (by rw[e,aDe]);have h2:=h' (y-t) fun e=>ht (by rw[e,aCu]);omega
  ·exact absurd rfl ht
theorem dle.nil(D:Int):dle D []:=fun i hi=>by simp at hi
theorem psumf_dle{D:Int}{f:Nat→aAd}:∀ {n:Nat},(∀i,i<n→dle D (f i))→dle D (vH f n)
 |0,_=>dle.nil D
 |n+1,h=>(psumf_dle fun i hi=>h i qN).padd (h n qN)
theorem isum_sk(g:aAh):∀(n i:Nat),i≤n→dK (fun x=>g (sk i x)) n+g i=dK g (n+1)
 |0,i,h=>by obtain rfl:i=0:=qN;simp[dK]
 |n+1,i,h=>by
  show dK (fun x=>g (sk i x)) n+g (sk i n)+g i=dK g (n+1)+g (n+1)
  by_cases e:i=n+1
  ·subst e;have e1:dK (fun x=>g (sk (n+1) x)) n=dK g n:=bS fun k hk=>by
    have:sk (n+1) k=k:=by unfold sk;rw[aBX qN]
    rw[this]
   have e2:sk (n+1) n=n:=by unfold sk;rw[aBX qN]
   rw[e1,e2];rfl
  ·have e2:sk i n=n+1:=by unfold sk;rw[aBU qN]
   have:=isum_sk g n i qN;rw[e2];omega
theorem pdet_dle:∀(n:Nat) (A:Px) (α β:aAh),(∀i j,i<n→j<n→dle (α i+β j) (A i j))→dle (dK α n+dK β n) (mP n A)
 |0,_,_,_,_=>fun i hi=>by
  cases i with
  |zero=>simp[dK]
  |succ i=>simp[mP]at hi
 |n+1,A,α,β,h=>by refine psumf_dle fun i hi=>dle.ptim ?_;have h1:=pdet_dle n (fun x y=>A (sk i x) (sk 0 y)) (fun x=>α (sk i x)) (fun y=>β (sk 0 y)) fun x y hx hy=>h _ _ (yL hx) (yL hy);refine((h i 0 hi qN).pmul h1).mono ?_;have e1:=isum_sk α n i qN;have e2:=isum_sk β n 0 qN;omega
theorem isum_leC{g:aAh}{C:Nat}:∀ {n:Nat},(∀t,t<n→(g t).natAbs≤C)→(dK g n).natAbs≤n*C
 |0,_=>by simp[dK]
 |n+1,h=>by have h1:=isum_leC (n:=n) fun t ht=>h t qN;have h2:=h n qN;have h3:=aD2 (dK g n) (g n);rw[aC8];show(dK g n+g n).natAbs≤_;omega
theorem cbd.pmul{A B k:Nat}{l m:aAd}(h:cbd A l)(h':cbd B m)(hl:l.length≤k):cbd (k*(A*B)) (pmul l m):=fun y=>by
 rcases co_pmul l m y with e|e
 ·rw[e];exact aB3 _
 ·rw[e];refine aBW (isum_leC (C:=A*B) fun t _=>?_) (aBZ _ (aBW (bQ l) hl))
  split
  ·rw[gH,gH,aCP];exact aCb (h t) (h' _)
  ·exact aB3 _
theorem psumf_cbd{C:Nat}{f:Nat→aAd}:∀ {n:Nat},(∀i,i<n→cbd C (f i))→cbd (n*C) (vH f n)
 |0,_=>fun i=>by simp[vH]
 |n+1,h=>fun i=>by have h1:=psumf_cbd (n:=n) (fun i hi=>h i qN) i;have h2:=h n qN i;rw[vH,l9,aC8];have:=aD2 ((vH f n).getD i 0) ((f n).getD i 0);omega
theorem sg_abs(i:Nat):(sg i).natAbs=1:=by unfold sg;split<;>rfl
def dbd(M k:Nat):Nat→Nat
 |0=>1
 |n+1=>(n+1)*(k*(M*dbd M k n))
theorem pdet_cbd{M k:Nat}:∀(n:Nat) (A:Px),(∀i j,cbd M (A i j))→(∀i j,(A i j).length≤k)→cbd (dbd M k n) (mP n A)
 |0,_,_,_=>fun i=>by
  cases i with
  |zero=>simp[mP,dbd]
  |succ i=>simp[mP]
 |n+1,A,h,hl=>by refine psumf_cbd fun i _=>?_;have h1:=pdet_cbd n (fun x y=>A (sk i x) (sk 0 y)) (fun x y=>h _ _) fun x y=>hl _ _;have h2:=(h i 0).pmul h1 (hl i 0);intro y;rw[o7,aCP,sg_abs,aDP];exact h2 y
section
variable {G H:List aAd} {d n:Nat}
theorem supp.dy(h:supp d (d*n) G)(hd:1≤d):dy G≤n:=by refine aEy.1 fun g=>?_;have hl:=led_dg (G:=G) (fun e=>by unfold Go.Proofs.YtjebljkoiaojaaaGreat.dy at g;rw[e]at g;simp at g);have h1:=m8 hl;have h2:gv (gtu G) (Go.Proofs.YtjebljkoiaojaaaGreat.dy G) (dg (led G)-1)≠0:=h1;rw[aAE]at h2;have h3:=h _ _ h2;have h4:d*(n+1)≤d*Go.Proofs.YtjebljkoiaojaaaGreat.dy G:=aB6 _ qN;rw[aB8]at h4;omega
theorem supp.row(h:supp d (d*n) G)(v:Nat):dle ((d:Int)*((n:Int)-v)) ((gtu G).getD v []):=fun i hi=>by
 have h2:gv (gtu G) v i≠0:=hi;rw[aAE]at h2;have h3:=h _ _ h2;have e:(d:Int)*((n:Int)-v)=((d*n:Nat):Int)-((d*v:Nat):Int):=by rw[aFe,aCK,aCK]
 omega
theorem syRow_dle(h:supp d (d*n) G)(a y:Nat):dle ((d:Int)*((n:Int)-dy G-a)+(d:Int)*y) (xC (gtu G) (dy G) a y):=by
 unfold xC
 split
 ·rename_i hy;refine(h.row (dy G-(y-a))).mono (Int.le_of_eq ?_);rw[←aEo]
  congr 1
  omega
 ·exact dle.nil _
theorem nm_len{l:aAd}{D:Int}{k:Nat}(hn:Nm l)(h:dle D l)(hk:D<k):l.length≤k:=by rw[←d9 hn];refine iH.2 fun i hi=>aCR fun e=>?_;have:=h i e;omega
theorem gel_len9(hG:supp d (d*n) G)(hH:supp d (d*n) H)(hd:1≤d)(hn:n≤2)(hdn:d*n≤4):(gel G H).length≤9:=by
 have g1:=hG.dy hd;have g2:=hH.dy hd;have key:¬(gtu G=[]∨gtu H=[])→(gel G H).length≤9:=fun h0=>by
  have e:gel G H=mP (dy G+dy H) (syX (gtu G) (gtu H) (dy G) (dy H)):=by unfold gel;rw[aBU h0]
  refine nm_len (D:=8) (gel_nm _ _) ?_ qE;rw[e];have h1:=pdet_dle (dy G+dy H) (syX (gtu G) (gtu H) (dy G) (dy H)) (fun i=>if i<dy H then(d:Int)*((n:Int)-dy G-i)else(d:Int)*((n:Int)-dy H-((i-dy H:Nat):Int))) (fun y=>(d:Int)*y) fun i j _ _=>by
   unfold syX
   split
   ·exact syRow_dle hG i j
   ·exact syRow_dle hH (i-dy H) j
  refine h1.mono ?_;generalize dy G=a at g1⊢;generalize dy H=b at g2⊢;have hn3:n=0∨n=1∨n=2:=qN;have ha3:a=0∨a=1∨a=2:=qN;have hb3:b=0∨b=1∨b=2:=qN;rcases hn3 with rfl|rfl|rfl<;>rcases ha3 with rfl|rfl|rfl<;>rcases hb3 with rfl|rfl|rfl<;>simp only[dK]at *<;>simp<;>omega
 by_cases h0:gtu G=[]∨gtu H=[]
 ·rw[gel_none h0];simp
 ·exact key h0
theorem syRow_cbd{M k:Nat}{F:List aAd}(h:∀v,cbd M (F.getD v [])∧(F.getD v []).length≤k)(e a y:Nat):cbd M (xC F e a y)∧(xC F e a y).length≤k:=by
 unfold xC
 split
 ·exact h _
 ·exact⟨fun i=>by simp,aB3 _⟩
theorem supp.rows{M:Nat}(h:supp d (d*n) G)(hdn:d*n≤4)(hb:∀u v,(gv G u v).natAbs≤M)(v:Nat):cbd M ((gtu G).getD v [])∧((gtu G).getD v []).length≤5:=by
 refine⟨fun i=>?_,?_⟩
 ·have:((gtu G).getD v []).getD i 0=gv G i v:=aAE G v i;rw[this];exact hb _ _
 ·refine nm_len (D:=4) ?_ ((h.row v).mono ?_) qE
  ·by_cases hv:v<(gtu G).length
   ·exact(gtu_gn G).2 _ (dV [] hv)
   ·rw[dC (l:=gtu G) qN];rfl
  ·have e:(d:Int)*((n:Int)-v)=((d*n:Nat):Int)-((d*v:Nat):Int):=by rw[aFe,aCK,aCK]
   omega
theorem gel_sz9(hG:supp d (d*n) G)(hH:supp d (d*n) H)(hd:1≤d)(hn:n≤2)(hdn:d*n≤4){M:Nat}(hM:M<18446744073709551616^2)(bG:∀u v,(gv G u v).natAbs≤M)(bH:∀u v,(gv H u v).natAbs≤M):szR 9 (gel G H):=by
 have g1:=hG.dy hd;have g2:=hH.dy hd
 by_cases h0:gtu G=[]∨gtu H=[]
 ·rw[gel_none h0];exact fun x hx=>by simp at hx
 have e:gel G H=mP (dy G+dy H) (syX (gtu G) (gtu H) (dy G) (dy H)):=by unfold gel;rw[aBU h0]
 rw[e];have key:∀i j,cbd M (syX (gtu G) (gtu H) (dy G) (dy H) i j)∧(syX (gtu G) (gtu H) (dy G) (dy H) i j).length≤5:=fun i j=>by
  unfold syX
  split
  ·exact syRow_cbd (hG.rows hdn bG) _ _ _
  ·exact syRow_cbd (hH.rows hdn bH) _ _ _
 refine(pdet_cbd _ _ (fun i j=>(key i j).1) fun i j=>(key i j).2).szR ?_;have h4:∀N,N≤4→dbd M 5 N≤15000*18446744073709551616^(2*N):=fun N hN=>by
  have hX:0<18446744073709551616^2:=qE;have e0:∀t,18446744073709551616^(2*t)=(18446744073709551616^2)^t:=fun t=>by rw[aEl]
  rw[e0];generalize 18446744073709551616^2=X at *;have s1:dbd M 5 1≤5*X^1:=by simp only[dbd,Nat.pow_one,aDW];omega
  have step:∀t a,dbd M 5 t≤a*X^t→dbd M 5 (t+1)≤((t+1)*5*a)*X^(t+1):=fun t a h=>by
   have h1:M*dbd M 5 t≤X*(a*X^t):=aCb qN h;show(t+1)*(5*(M*dbd M 5 t))≤_;have h2:(t+1)*(5*(M*dbd M 5 t))≤(t+1)*(5*(X*(a*X^t))):=aB6 _ (aB6 _ h1);have h3:(t+1)*(5*(X*(a*X^t)))=((t+1)*5*a)*X^(t+1):=by rw[aCa];grind
   omega
  have s2:=step 1 _ s1;have s3:=step 2 _ s2;have s4:=step 3 _ s3;have hN5:N=0∨N=1∨N=2∨N=3∨N=4:=qN;rcases hN5 with rfl|rfl|rfl|rfl|rfl
  ·simp[dbd]
  ·exact aBW s1 (aBZ _ qE)
  ·exact aBW s2 (aBZ _ qE)
  ·exact aBW s3 (aBZ _ qE)
  ·exact s4
 have h5:=h4 (dy G+dy H) qN;refine aC3 h5 ?_;have h6:18446744073709551616^(2*(dy G+dy H))≤18446744073709551616^8:=aC0 qE qN;have h7:(18446744073709551616:Nat)^9=18446744073709551616^8*18446744073709551616:=aCa _ _;have h8:0<18446744073709551616^8:=qE;generalize 18446744073709551616^8=X at *;omega
end
def Rq(R C:Nat)(x:Jx)(B:Mx)(k0:Nat):Prop:=∀i c,i<R→c<C→jv (x i c)=B i c∧Lim (x i c).2∧((x i c).2.length≤k0∨x i c=cn (B i c))
theorem Rq.rp{R C:Nat}{x:Jx}{B:Mx}{k0 K:Nat}(h:Rq R C x B k0)(hz:∀i c,i<R→c<C→sz (B i c) K)(hk:k0≤K):Rp R C x B K:=fun i c hi hc=>by
 obtain⟨h1,h2,h3⟩:=h i c hi hc;refine⟨h1,h2,?_⟩;rcases h3 with h3|h3
 ·omega
 ·rw[h3];exact(hz i c hi hc).len
theorem Rq.red{R C:Nat}{x x2:Jx}{B:Mx}{k0 k j:Nat}{q:Int}(h:Rq R C x B k0)(hk:k<R)(hj:j<R)(h2:x2=x∧q=0∨x2=mid x k j q C):Rq R C x2 (redq B k j q) k0:=by
 rcases h2 with ⟨rfl,rfl⟩|rfl
 ·rw[redq_zero];exact h
 ·intro i c hi hc;unfold mid redq
  by_cases e:i=k
  ·rw[aBX ⟨e,hc⟩,aBX e,dJ,(h k c hk hc).1,(h j c hj hc).1];exact⟨rfl,aV _,.inr rfl⟩
  ·rw[aBU (fun h=>e h.1),aBU e];exact h i c hi hc
theorem Rq.swb{R C:Nat}{x:Jx}{B:Mx}{k0 p:Nat}(h:Rq R C x B k0)(hp:p+1<R):Rq R C (fun i c=>x (sx p i) c) (swb B p) k0:=fun i c hi hc=>h (sx p i) c (sx_lt hp hi) hc
structure Sv(m n:Nat)(a:Mx)(D K k0:Nat)(x y:Jx)(d:aAh)(l:Mx)(B U:Mx):Prop where
 lb:LB a m n D K B U
 rb:Rq n m x B k0
 ru:Rq n n y U k0
 hd:∀t,t≤n→d t=dm m B t
 hl:∀i t,t<i→i<n→l i t=lm m B i t
section
variable {m n:Nat} {a:Mx} {D K k0 A Z:Nat} {x y:Jx} {d:aAh} {l:Mx} {B U:Mx}
structure Szs(m n:Nat)(a:Mx)(D K k0 A Z:Nat):Prop where
 hm:m≤1048576
 hn:n≤1048575
 ha:∀i c,i<n→c<m→sz (a i c) A
 hd:dm m a n≠0
 hk:k0≤Z
 hz:D+K+2≤Z∧K+A+1+((A+A+2)*n+1)+1≤Z
 big:Z≤268435456
theorem Sv.mono{K':Nat}(h:Sv m n a D K k0 x y d l B U)(hk:K≤K'):Sv m n a D K' k0 x y d l B U :=⟨⟨h.lb.ind,h.lb.dz,fun i c hi hc=>(h.lb.bz i c hi hc).mono hk,h.lb.ua,h.lb.un⟩,h.rb,h.ru,h.hd,h.hl⟩
theorem Sv.dz(h:Sv m n a D K k0 x y d l B U)(t:Nat)(ht:t≤n):sz (d t) D:=by rw[h.hd t ht];exact h.lb.dz t ht
theorem Sv.lz(h:Sv m n a D K k0 x y d l B U)(z:Szs m n a D K k0 A Z)(i j:Nat)(hj:j<i)(hi:i<n):sz (l i j) (D+K+1):=by rw[h.hl i j hj hi];exact h.lb.lz (by have:=z.hm;omega) hi hj
theorem Sv.bp(h:Sv m n a D K k0 x y d l B U)(z:Szs m n a D K k0 A Z):Rp n m x B Z:=h.rb.rp (fun i c hi hc=>(h.lb.bz i c hi hc).mono (by have:=z.hz;omega)) z.hk
theorem Sv.uz(h:Sv m n a D K k0 x y d l B U)(z:Szs m n a D K k0 A Z)(i j:Nat)(hi:i<n)(hj:j<n):sz (U i j) Z :=(h.lb.uz (by have:=z.hm;omega) (by have:=z.hn;omega) z.ha z.hd hi hj).mono z.hz.2
theorem Sv.up(h:Sv m n a D K k0 x y d l B U)(z:Szs m n a D K k0 A Z):Rp n n y U Z:=h.ru.rp (h.uz z) z.hk
theorem Sv.red{k j:Nat}{x2 y2:Jx}(h:Sv m n a D K k0 x y d l B U)(z:Szs m n a D K k0 A Z)(hk:k<n)(hj:j<k)(hx:x2=x∧rnd (l k j) (d (j+1))=0∨x2=mid x k j (rnd (l k j) (d (j+1))) m)(hy:y2=y∧rnd (l k j) (d (j+1))=0∨y2=mid y k j (rnd (l k j) (d (j+1))) n):Sv m n a D (D+K+K+3) k0 x2 y2 d (lmid l d k j (rnd (l k j) (d (j+1))) j) (redq B k j (rnd (lm m B k j) (dm m B (j+1)))) (redq U k j (rnd (lm m B k j) (dm m B (j+1)))):=by
 have e1:=h.hl k j hj hk;have e2:=h.hd (j+1) qN;rw[e1,e2]at hx hy⊢;have hm:m<18446744073709551616:=by have:=z.hm;omega
 refine⟨h.lb.redq hk hj (h.lb.qz hm hk hj),h.rb.red hk qN hx,h.ru.red hk qN hy,fun t ht=>by rw[aAZ h.lb.ind hj ht];exact h.hd t ht,fun i t ht hi=>?_⟩;rw[lm_redq h.lb.ind hj ht hi];unfold lmid
 by_cases ei:i=k
 ·rw[aBX ei,aBX ei]
  by_cases et:t=j
  ·rw[aBX et,aBU qN,aBX et,e1,e2]
  ·rw[aBU et]
   by_cases et2:t<j
   ·rw[aBX et2,aBX et2,h.hl k t qN hk,h.hl j t et2 qN]
   ·rw[aBU et2,aBU et2,aBU et,h.hl k t qN hk]
 ·rw[aBU ei,aBU ei,h.hl i t ht hi]
theorem Sv.turn{k:Nat}(h:Sv m n a D K k0 x y d l B U)(h1:1≤k)(hk:k<n)(hf:¬farL m B k):Sv m n a D K k0 (fun i c=>x (sx (k-1) i) c) (fun i c=>y (sx (k-1) i) c) (tdd d l k) (trw d l k n) (swb B (k-1)) (swb U (k-1)):=by
 obtain⟨p,rfl⟩:∃p,k=p+1:=⟨k-1,qN⟩;rw[aCH];have hi:=h.lb.ind;have e0:=h.hd p qN;have e1:=h.hd (p+1) qN;have e2:=h.hd (p+2) qN;have el:=h.hl (p+1) p qN hk;have n1:dm m B (p+1)≠0:=by have:=hi (p+1) qN;omega
 have n2:dm m B (p+2)≠0:=by have:=hi (p+2) qN;omega
 have hT:tD d l (p+1)=mi (gr m B) p (p+1) (p+1):=by unfold tD;rw[aCH,e0,e1,e2,el,←dd hi hk,aE6 _ n1]
 have hlb:=h.lb.swb (k:=p+1) qN hk hf;rw[aCH]at hlb;have hN1:∀i,p+1<i→i<n→tN1 d l (p+1) i=lm m (swb B p) i (p+1):=fun i g1 g2=>by unfold tN1;rw[aCH,e1,e2,el,h.hl i p qN g2,h.hl i (p+1) g1 g2,←lm_swb_one hi hk g1 g2,aE6 _ n1]
 refine⟨hlb,h.rb.swb hk,h.ru.swb hk,fun t ht=>?_,fun i t ht hi'=>?_⟩
 ·unfold tdd;rw[aAY hi hk ht]
  split
  ·exact hT
  ·exact h.hd t ht
 ·unfold trw
  by_cases c1:p+1<i
  ·rw[aBX ⟨c1,hi'⟩]
   by_cases c2:t=p+1
   ·rw[aBX c2,hN1 i c1 hi',c2]
   ·rw[aBU c2,aCH]
    by_cases c3:t=p
    ·rw[aBX c3];unfold tN2;rw[hN1 i c1 hi',hT,aCH,e2,el,h.hl i (p+1) c1 hi',←lm_swb_two hi hk c1 hi',aE6 _ n2,c3]
    ·rw[aBU c3,wR hi hk ht hi',aBU qN,aBU c3,aBU c2,yF qN,h.hl i t ht hi']
  ·rw[aBU (fun h=>c1 h.1),aCH];unfold tsw
   by_cases c2:i=p+1
   ·subst c2
    by_cases c3:t<p
    ·rw[aBX ⟨rfl,c3⟩,aCH,wR hi hk ht hi',aBU qN,aBU qN,aBU qN,sx_at',h.hl p t c3 qN]
    ·rw[aBU (fun h=>c3 h.2),aBU qN,wR hi hk ht hi',aBX qN,show t=p by omega,el]
   ·rw[aBU (fun h=>c2 h.1),aCH]
    by_cases c4:i=p
    ·subst c4;rw[aBX qN,wR hi hk ht hi',aBU qN,aBU qN,aBU qN,sx_at,h.hl (i+1) t qN hk]
    ·rw[aBU (fun h=>c4 h.1),wR hi hk ht hi',aBU qN,aBU qN,aBU qN,sx_low qN,h.hl i t ht hi']
theorem Sv.far{k:Nat}(h:Sv m n a D K k0 x y d l B U)(h1:1≤k)(hk:k<n):decide (farN d l k)=decide (farL m B k):=by refine aEN.2 ?_;unfold farN farL;rw[h.hd k qN,h.hd (k+1) qN,h.hd (k-1) qN,h.hl k (k-1) qN hk]
end
def lD(k n:Nat):Nat:=(k+k+2)*n+1
def lK(k n:Nat):Nat:=n*(lD k n+1)+k
theorem mm_one_left{n:Nat}(A:Mx){i:Nat}(c:Nat)(hi:i<n):mm n one A i c=A i c:=by unfold mm;rw[mE (r:=i) hi fun s _ hs=>by unfold one;rw[aBU (fun e=>hs e.symm),aDe]];unfold one;rw[aBX rfl,aDR]
theorem Sv.start{a:List Row}{k:Nat}(hf:Fits k a)(lc:(a.getD 0 []).length≤1048576)(ln:a.length≤1024)(hI:Ind (a.getD 0 []).length a.length (rvm a)):Sv (a.getD 0 []).length a.length (rvm a) (lD k a.length) (lK k a.length) k (rawJ a) uniJ (dm (a.getD 0 []).length (rvm a)) (ltb (a.getD 0 []).length (rvm a) a.length 0) (rvm a) one:=by
 have hg:∀i j,sz (gr (a.getD 0 []).length (rvm a) i j) (k+k+1):=gmx_sz hf lc;refine⟨⟨hI,fun t ht=>?_,fun i c _ _=>(rv_sz (hf.get i) c).mono (by unfold lK;omega),fun i c hi _=>mm_one_left _ c hi,.inl (aA4 _)⟩,fun i c _ _=>?_,fun i c _ _=>?_,fun _ _=>rfl,fun i t h1 h2=>?_⟩
 ·unfold dm dG;refine(det_sz t qN (k:=k+k+1) fun x y _ _=>hg _ _).mono ?_;have:(k+k+1+1)*t≤(k+k+2)*a.length:=aCb qN ht;unfold lD;omega
 ·exact⟨rfl,((hf.get i).get c).1,.inl ((hf.get i).get c).2⟩
 ·have e:uniJ i c=cn (one i c):=by
   unfold uniJ one
   by_cases h:c=i
   ·rw[aBX h,aBX h.symm]
   ·rw[aBU h,aBU (fun e=>h e.symm),cn0]
  rw[e,dJ];exact⟨rfl,aV _,.inr rfl⟩
 ·unfold ltb;rw[aBX ⟨h1,.inl h2⟩]
def kt(D K:Nat):Nat→Nat
 |0=>K
 |t+1=>D+kt D K t+kt D K t+3
theorem kt_mono{D K:Nat}:∀ {s t:Nat},s≤t→kt D K s≤kt D K t
 |s,0,h=>by rw[show s=0 by omega];exact aBY _
 |s,t+1,h=>by
  by_cases e:s=t+1
  ·rw[e];exact aBY _
  ·have:=kt_mono (D:=D) (K:=K) (s:=s) (t:=t) qN;show kt D K s≤D+kt D K t+kt D K t+3;omega
def lZ(k n:Nat):Nat:=kt (lD k n) (lK k n) n+lD k n+k+((k+k+2)*n+1)+4
theorem lrun_step{m n f:Nat}{b u:Mx}{k:Nat}{R:Mx×Mx}(h:rF m n f b u k=some R)(hk:k<n):∃g,f=g+1∧(if farL m (pK m k k b u).1 k then rF m n g (pK m k k b u).1 (pK m k k b u).2 (k+1) else rF m n g (swb (pK m k k b u).1 (k-1)) (swb (pK m k k b u).2 (k-1)) (max 1 (k-1)))=some R:=by
 cases f with
 |zero=>simp[rF]at h
 |succ g =>
  rw[rF,aBU qN]at h;exact⟨g,rfl,h⟩
theorem lrun_end{m n f:Nat}{b u:Mx}{k:Nat}{R:Mx×Mx}(h:rF m n f b u k=some R)(hk:n≤k):R=(b,u):=by
 cases f with
 |zero=>simp[rF]at h
 |succ g =>
  rw[rF,aBX hk]at h;simpa using h.symm
theorem redr_row{m k:Nat}:∀(j:Nat) (b u:Mx) (i c:Nat),i≠k→(pK m k j b u).1 i c=b i c
 |0,_,_,_,_,_=>rfl
 |j+1,b,u,i,c,h=>by rw[pX,redr_row j _ _ i c h];unfold redq;rw[aBU h]
theorem Sv.full{m n:Nat}{a:Mx}{D K K' k0 k:Nat}{x y:Jx}{d:aAh}{l:Mx}{B0 U0 B U:Mx}(h0:LB a m n D K B0 U0)(h:Sv m n a D K' k0 x y d l B U)(hk:k<n)(hK:n*(D+1)≤K)(he:(B,U)=pK m k k B0 U0):Sv m n a D K k0 x y d l B U:=by
 obtain⟨w,ws⟩:=tO (u:=U0) hk h0.ind;have eB:B=(pK m k k B0 U0).1:=by rw[←he]
 have eU:U=(pK m k k B0 U0).2:=by rw[←he]
 rw[←eB]at w ws;exact⟨h0.full hk hK w ws (fun i c hi=>by rw[eB];exact redr_row k _ _ i c hi) h.lb.ua h.lb.un,h.rb,h.ru,h.hd,h.hl⟩
structure RdS where
 k:Nat
 s:BS
 b:Jx
 u:Jx
 d:Nat→Int
 l:Mx
 B:Mx
 U:Mx
 f:Nat
structure RdI where
 z:Int
 j:Nat
 b:Jx
 u:Jx
 l:Mx
 B:Mx
 U:Mx
def wP(x:Jx)(i c:Nat):Jx:=fun a e=>if a<i∨(a=i∧e<c)then cn (jv (x a e))else x a e
theorem nrmJ_zero(x:Jx):wP x 0 0=x:=by funext a e;unfold wP;rw[aBU qN]
theorem lReduce_meets(v:Value)(a:List Row)(k:Nat)(R:Mx×Mx)(hf:Fits k a)(hk:k≤1048576)(ln:a.length≤1024)(lc:(a.getD 0 []).length≤1048576)(hZ:lZ k a.length≤268435456)(hR:right a→Ind (a.getD 0 []).length a.length (rvm a)→∃f,rF (a.getD 0 []).length a.length f (rvm a) one 1=some R):aAb 30 [v] [(v,W a)] (fun r os fs=>fs=[] ∧ ((¬right a∧r=.tuple #[.slice none 0 0,.slice none 0 0,.int .i64 1]∧os=[])∨(right a∧¬Ind (a.getD 0 []).length a.length (rvm a)∧r=.tuple #[.slice none 0 0,.slice none 0 0,.int .i64 8]∧os=[]) ∨ (right a∧Ind (a.getD 0 []).length a.length (rvm a)∧∃q w vs ws,isSl q∧isSl w∧(∀i,i<a.length→isSl (vs i))∧(∀i,i<a.length→isSl (ws i))∧r=.tuple #[q,w,.int .i64 0] ∧ os=[famO vs a.length (a.getD 0 []).length R.1,m6 q a.length vs,famO ws a.length a.length R.2,m6 w a.length ws]))):=by
 refine mV Tryz.func30 ?_;refine cH (mRight_meets v a) ?_
 by_cases hr:right a
 case neg =>
  rw[aCg hr];exact fin ⟨rfl,.inl ⟨hr,rfl,rfl⟩⟩ (aH _ _)
 rw[aCn hr];refine cF (lmade_meets v a k hf hr hk ln lc) ?_;rintro _ _ _ (⟨hI,rfl,rfl,rfl⟩|⟨hI,s0,hs0,rfl,rfl,rfl⟩)
 ·refine eq_ptr<|fin ⟨rfl,.inr (.inl ⟨hr,hI,rfl,rfl⟩)⟩ (aH _ _)
 have hv:=Sv.start hf lc ln hI;have hn1:=hr.1;obtain⟨f0,hf0⟩:=hR hr hI;have hA:∀i c,sz (rvm a i c) k:=fun i c=>rv_sz (hf.get i) c;have hdn:dm (a.getD 0 []).length (rvm a) a.length≠0:=by have:=hI a.length (aBY _);omega
 have hnK:a.length*(lD k a.length+1)≤lK k a.length:=by unfold lK;omega
 have hzz:kt (lD k a.length) (lK k a.length) a.length+lD k a.length+k+((k+k+2)*a.length+1)+4≤268435456:=hZ;generalize hC:(a.getD 0 []).length=C at *;generalize dm C (rvm a)=d0 at hv⊢;generalize ltb C (rvm a) a.length 0=l0 at *;generalize hDD:lD k a.length=D at *;generalize hKK:lK k a.length=K at *;generalize hZZ:kt D K a.length+D+k+((k+k+2)*a.length+1)+4=Z at *;have hsz:∀t,t≤a.length→Szs C a.length (rvm a) D (kt D K t) k k Z:=fun t ht=>by have:=kt_mono (D:=D) (K:=K) ht;exact⟨qN,qN,fun i c _ _=>hA i c,hdn,qN,⟨qN,qN⟩,hzz⟩
 have hK0:Szs C a.length (rvm a) D K k k Z:=hsz 0 (aB3 _);refine eq_ptr<|aO (X:=RdS) (fun x=>([(0,v),(5,fA x.s.r 0),(6,.int .i64 (x.k:Nat))],bas x.s C a.length x.b x.u x.d x.l [],[(v,W a)]))
  (fun x=>1≤x.k∧x.k≤a.length∧x.s.ok a.length∧Sv C a.length (rvm a) D K k x.b x.u x.d x.l x.B x.U∧rF C a.length x.f x.B x.U x.k=some R) (fun x=>x.f) rfl ?_ ?_
 ·exact aS ⟨1,s0,rawJ a,uniJ,d0,l0,rvm a,one,f0⟩ ⟨aBY _,hn1,hs0,hv,hf0⟩ aB0 qF (aA qS)
 ·rintro⟨i,s,b,u,d,l,B,U,f⟩ ⟨hi1,hi2,hs,hv,hf⟩;simp only at hi1 hi2 hs hv hf⊢;refine aT (v:=v) (n:=a.length) qM fun _=>aE _ rfl (fun hc=>?_) (fun hc=>?_)
  ·have hin:i<a.length:=qN;obtain⟨g,rfl,hg⟩:=lrun_step hf hin;refine ar rfl qI<|aO (X:=RdI) (fun x=>([(0,v),(5,fA s.r 0),(6,.int .i64 (i:Nat)),(7,.int .i64 x.z)],bas s C a.length x.b x.u d x.l [],[(v,W a)]))
    (fun x=>x.z=(x.j:Int)-1∧x.j≤i∧Sv C a.length (rvm a) D (kt D K (i-x.j)) k x.b x.u d x.l x.B x.U∧pK C i x.j x.B x.U=pK C i i B U) (fun x=>x.j) rfl ?_ ?_
   ·exact aS ⟨(i:Int)-1,i,b,u,l,B,U⟩ ⟨rfl,aBY _,by simp only[aEd];exact hv,rfl⟩ aB0 qF (aA qS)
   ·rintro⟨z,j,b2,u2,l2,B2,U2⟩ ⟨hz,hj,hv2,he⟩;simp only at hz hj hv2 he⊢;refine aE _ rfl (fun hlt=>?_) (fun hlt=>?_)
    ·obtain⟨j,rfl⟩:∃j',j=j'+1:=⟨j-1,qN⟩;obtain rfl:z=(j:Int):=qN;have hS:=hsz (i-(j+1)) qN;have aBa:=hS.hz;refine size_call i j D (D+kt D K (i-(j+1))+1) Z hin qN qN qN hs (hv2.bp hS) (hv2.up hS) hv2.dz (fun x y h1 h2=>hv2.lz hS x y h1 h2) ?_ qN qN qN fun r b3 u3 h3 h4=>?_
     ·rw[hv2.hd (j+1) qN];exact hv2.lb.ind (j+1) qN
     have hv3:=hv2.red hS hin qN h3 h4;refine ar rfl qI<|aS ⟨(j:Int)-1,j,b3,u3,lmid l2 d i j (rnd (l2 i j) (d (j+1))) j,redq B2 i j (rnd (lm C B2 i j) (dm C B2 (j+1))),redq U2 i j (rnd (lm C B2 i j) (dm C B2 (j+1)))⟩ ⟨rfl,qO,?_,?_⟩ qO qF (aA (fs':=[(v,W a)]) qS)
     ·refine hv3.mono ?_;simp only;rw[show i-j=(i-(j+1))+1 by omega];exact aBY _
     ·exact he
    ·obtain rfl:j=0:=qN;have hv3:Sv C a.length (rvm a) D K k b2 u2 d l2 B2 U2:=hv2.full hv.lb hin hnK he;have eB:(pK C i i B U).1=B2:=by rw[←he];rfl
     have eU:(pK C i i B U).2=U2:=by rw[←he];rfl
     rw[eB,eU]at hg;refine far_call i D (D+K+1) hi1 hin qN hs hv3.dz (fun x y h1 h2=>hv3.lz hK0 x y h1 h2) qN (by have:=hK0.hz;omega) ?_;rw[hv3.far hi1 hin]
     by_cases hfar:farL C B2 i
     ·rw[aCn hfar];rw[aBX hfar]at hg;refine ar rfl qI<|aS ⟨i+1,s,b2,u2,d,l2,B2,U2,g⟩ ⟨qO,qO,hs,hv3,hg⟩ qO qF (aA (fs':=[(v,W a)]) qS)
     ·rw[aCg hfar];rw[aBU hfar]at hg;have n1:d i≠0:=by rw[hv3.hd i qN];have:=hv3.lb.ind i qN;omega
      have n2:d (i+1)≠0:=by rw[hv3.hd (i+1) qN];have:=hv3.lb.ind (i+1) qN;omega
      refine turn_call i D (D+K+1) hi1 hin qN hs hv3.dz (fun x y h1 h2=>hv3.lz hK0 x y h1 h2) n1 n2 (by have:=hK0.hz;omega) (by have:=hK0.hz;omega) fun r=>?_;have hv4:=hv3.turn hi1 hin hfar;refine ar rfl qI<|gR<|aS ⟨max 1 (i-1),s.sw (i-1),_,_,_,_,_,_,g⟩ ⟨qO,qO,hs.sw qN,hv4,hg⟩ qO qF (aA (fs':=[(v,W a)]) qS)
  ·have hin:i=a.length:=qN;have hRR:=lrun_end hf qN;have hb:=hv.bp hK0;have hu:=hv.up hK0;have z1:=hs.vb;have z2:=hs.vu;have z3:=hs.sb;have z4:=hs.su;have hZb:Z≤268435456:=hzz;have e1:∀i c,i<a.length→c<C→cn (jv (b i c))=cn (R.1 i c):=fun i c h1 h2=>by rw[(hb i c h1 h2).1,hRR]
   have e2:∀i c,i<a.length→c<a.length→cn (jv (u i c))=cn (R.2 i c):=fun i c h1 h2=>by rw[(hu i c h1 h2).1,hRR]
   clear hv hf hRR hR hsz hK0 hf0 hA;generalize hn:a.length=n at *;refine aY [0,1,2,3,4,5,6,7,8,9,12,10,11] [0,1,2,3,4,5,6,7,8,9,10,11,12] qK qK<|bB<|bB<|ld4b 0 rfl rfl<|bB<|bB<|ld4u 0 rfl rfl<|dL (size:=1) (n:=2) [s.vb,s.vu] [.one s.vb,.one s.vu] rfl rfl qE qE ⟨dM hs.vb.one,rfl,dM hs.vu.one,rfl,aB0⟩ fun lt=>aT (n:=2) qM fun _=>aO (X:=Nat) (fun t=>([(5,fA s.r 0),(55,lt),(56,.int .i64 2),(57,.int .i64 (t:Nat))],
     bas s C n (selb b (wP b n 0) t) (selu u (wP u n 0) t) d l [],[(lt,.sl 1 2 fun i=>[Dat.one s.vb,Dat.one s.vu].getD i (.one undef))]))
     (fun t=>t≤2) (fun t=>2-t) rfl ?_ ?_
   ·exact aS 0 (aB3 _) aB0 qF (aA qS)
   ·rintro t ht;refine aE _ rfl (fun hc=>?_) (fun hc=>?_)
    ·have htt:t=0∨t=1:=qN;rcases htt with rfl|rfl
     ·
      refine aJ (n:=2) qM 0 rfl qE fun a1=>bI (u:=s.vb) qM<|eJ 2 rfl z1 fun _=>aO (X:=Nat) (fun i=>([(5,fA s.r 0),(55,lt),(56,.int .i64 2),(57,.int .i64 (0:Nat)),(61,s.vb),(62,.int .i64 (n:Nat)),(63,.int .i64 (i:Nat))],
        bas s C n (wP b i 0) (u) d l [],[(lt,.sl 1 2 fun i=>[Dat.one s.vb,Dat.one s.vu].getD i (.one undef))]))
        (fun i=>i≤n) (fun i=>n-i) rfl ?_ ?_
      ·exact aS 0 (aB3 _) aB0 qF (by rw[nrmJ_zero];exact aA qS)
      rintro i hi;refine aE _ rfl (fun hlt=>?_) (fun hlt=>?_)
      ·have hin:i<n:=qN;refine aN 2 rfl z1 i rfl qN<|aX 2 rfl i qN (u:=s.sb i) rfl<|len_fj 1 i rfl hin (z3 i hin) fun _=>aO (X:=Nat) (fun c=>([(5,fA s.r 0),(11,s.sb i),(55,lt),(56,.int .i64 2),(57,.int .i64 (0:Nat)),(61,s.vb),(62,.int .i64 (n:Nat)),(63,.int .i64 (i:Nat)),(67,s.sb i),(68,.int .i64 (C:Nat)),(69,.int .i64 (c:Nat))],
         bas s C n (wP b i c) (u) d l [],[(lt,.sl 1 2 fun i=>[Dat.one s.vb,Dat.one s.vu].getD i (.one undef))]))
         (fun c=>c≤C) (fun c=>C-c) rfl ?_ ?_
       ·exact aS 0 (aB3 _) aB0 qF (aA qS)
       rintro c hcm;refine aE _ rfl (fun aBb=>?_) (fun aBb=>?_)
       ·have hcC:c<C:=qN;have f1:=hb i c hin hcC;refine cT 1 i rfl hin (z3 i hin) c rfl hcC<|iM 1 i c rfl hin hcC (b i c) (by unfold wP;rw[aBU qN]) fun y1=>cG (kW y1 (b i c).1 (b i c).2 f1.2.1 qN) fun y2=>cT 1 i rfl hin (z3 i hin) c rfl hcC<|kI 1 i c rfl hin hcC (cn (jv (b i c))) (wP b i (c+1)) (aB (d:=zd (jv (b i c))) qM) (fun a b' ha hb'=>?_) ?_
        ·unfold wP
         by_cases e:a=i∧b'=c
         ·rw[aBX e,aBX qN,e.1,e.2]
         ·rw[aBU e]
          by_cases e2:a<i∨(a=i∧b'<c)
          ·rw[aBX e2,aBX qN]
          ·rw[aBU e2,aBU qN]
        refine ar rfl qI<|aS (c+1) qN qO qF (aA qS)
       ·have hcC:c=C:=qN;subst hcC;refine ar rfl qI<|aS (i+1) qN qO qF (aC (Seals.fjcong (vs:=s.sb) (vs':=s.sb) (x:=wP b i c) (x':=wP b (i+1) 0) (os:=[_,_,_,_,_,_,_,_]) 1 rfl (fun x=>x) (fun x hx=>⟨hx,rfl,fun y hy=>?_⟩) (fun _ _ _ _ e=>e)) (aA qS));unfold wP
        by_cases e:x<i∨x=i
        ·rw[aBX qN,aBX qN]
        ·rw[aBU qN,aBU qN]
      ·have hin:i=n:=qN;subst hin;refine ar rfl qI<|aS 1 qN qO qF (aA qS)
     ·
      refine aJ (n:=2) qM 1 rfl qE fun a1=>bI (u:=s.vu) qM<|eJ 4 rfl z2 fun _=>aO (X:=Nat) (fun i=>([(5,fA s.r 0),(55,lt),(56,.int .i64 2),(57,.int .i64 (1:Nat)),(61,s.vu),(62,.int .i64 (n:Nat)),(63,.int .i64 (i:Nat))],
        bas s C n (wP b n 0) (wP u i 0) d l [],[(lt,.sl 1 2 fun i=>[Dat.one s.vb,Dat.one s.vu].getD i (.one undef))]))
        (fun i=>i≤n) (fun i=>n-i) rfl ?_ ?_
      ·exact aS 0 (aB3 _) aB0 qF (by rw[nrmJ_zero];exact aA qS)
      rintro i hi;refine aE _ rfl (fun hlt=>?_) (fun hlt=>?_)
      ·have hin:i<n:=qN;refine aN 4 rfl z2 i rfl qN<|aX 4 rfl i qN (u:=s.su i) rfl<|len_fj 3 i rfl hin (z4 i hin) fun _=>aO (X:=Nat) (fun c=>([(5,fA s.r 0),(11,s.su i),(55,lt),(56,.int .i64 2),(57,.int .i64 (1:Nat)),(61,s.vu),(62,.int .i64 (n:Nat)),(63,.int .i64 (i:Nat)),(67,s.su i),(68,.int .i64 (n:Nat)),(69,.int .i64 (c:Nat))],
         bas s C n (wP b n 0) (wP u i c) d l [],[(lt,.sl 1 2 fun i=>[Dat.one s.vb,Dat.one s.vu].getD i (.one undef))]))
         (fun c=>c≤n) (fun c=>n-c) rfl ?_ ?_
       ·exact aS 0 (aB3 _) aB0 qF (aA qS)
       rintro c hcm;refine aE _ rfl (fun aBb=>?_) (fun aBb=>?_)
       ·have hcC:c<n:=qN;have f1:=hu i c hin hcC;refine cT 3 i rfl hin (z4 i hin) c rfl hcC<|iM 3 i c rfl hin hcC (u i c) (by unfold wP;rw[aBU qN]) fun y1=>cG (kW y1 (u i c).1 (u i c).2 f1.2.1 qN) fun y2=>cT 3 i rfl hin (z4 i hin) c rfl hcC<|kI 3 i c rfl hin hcC (cn (jv (u i c))) (wP u i (c+1)) (aB (d:=zd (jv (u i c))) qM) (fun a b' ha hb'=>?_) ?_
        ·unfold wP
         by_cases e:a=i∧b'=c
         ·rw[aBX e,aBX qN,e.1,e.2]
         ·rw[aBU e]
          by_cases e2:a<i∨(a=i∧b'<c)
          ·rw[aBX e2,aBX qN]
          ·rw[aBU e2,aBU qN]
        refine ar rfl qI<|aS (c+1) qN qO qF (aA qS)
       ·have hcC:c=n:=qN;subst hcC;refine ar rfl qI<|aS (i+1) qN qO qF (aC (Seals.fjcong (vs:=s.su) (vs':=s.su) (x:=wP u i c) (x':=wP u (i+1) 0) (os:=[_,_,_,_,_,_,_,_]) 3 rfl (fun x=>x) (fun x hx=>⟨hx,rfl,fun y hy=>?_⟩) (fun _ _ _ _ e=>e)) (aA qS));unfold wP
        by_cases e:x<i∨x=i
        ·rw[aBX qN,aBX qN]
        ·rw[aBU qN,aBU qN]
      ·have hin:i=n:=qN;subst hin;refine ar rfl qI<|aS 2 qN qO qF (aA qS)
    ·have ht2:t=2:=qN;subst ht2;refine aY [0,1,2,3,4,5,6,7,8,9,10,11,12] [0,1,2,3,4,10,5,6,7,8,9,11,12] qK qK<|bB<|bB<|ld4b 0 rfl rfl<|bB<|bB<|ld4u 0 rfl rfl<|fin ⟨rfl,.inr (.inr ⟨hr,hI,s.vb,s.vu,s.sb,s.su,z1,z2,z3,z4,rfl,rfl⟩)⟩<|dS (aC (aZ 4 _ _) (aC (aZ 4 _ _) (aC (aZ 4 _ _) ?_)));refine aC (Seals.fjcong (vs:=s.sb) (vs':=s.sb) (x:=wP b n 0) (x':=fun i c=>cn (R.1 i c)) (os:=[_,_,_,_]) 0 rfl (fun x=>x) (fun x hx=>⟨hx,rfl,fun y hy=>?_⟩) (fun _ _ _ _ e=>e))
      (aC (Seals.fjcong (vs:=s.su) (vs':=s.su) (x:=wP u n 0) (x':=fun i c=>cn (R.2 i c)) (os:=[_,_,_,_]) 2 rfl (fun x=>x) (fun x hx=>⟨hx,rfl,fun y hy=>?_⟩) (fun _ _ _ _ e=>e)) (aH _ _))
     ·unfold wP;rw[aBX (.inl hx)];exact(e1 x y hx hy).symm
     ·unfold wP;rw[aBX (.inl hx)];exact(e2 x y hx hy).symm
theorem dG_det(G:Mx)(n:Nat):dG G n=det n G:=by unfold dG;rw[←det_rev n G];refine cY fun x y hx hy=>?_;show G ((dn n).getD x 0) ((dn n).getD y 0)=G _ _;rw[uJ hx,uJ hy]
section
variable {m n:Nat} {b:Mx}
theorem ip_zero{u:aAh}:∀ {m:Nat},ip m u u=0→∀c,c<m→u c=0
 |0,_,c,hc=>by omega
 |m+1,h,c,hc=>by
  have h1:ip m u u+u m*u m=0:=h;have h2:=ip_nn m u;have h3:=sq_nn (u m)
  by_cases e:c=m
  ·have:u m*u m=0:=qN;rw[e];rcases aDj.1 this with h|h<;>exact h
  ·exact ip_zero (m:=m) qN c qN
theorem ind_of_vol(h:dm m b n≠0):Ind m n b:=by
 have hne:∀t,t≤n→dG (gr m b) t≠0:=by
  intro t
  induction t with
  |zero=>intro _;rw[vV];decide
  |succ s ih =>
   intro hs h0;have hs0:=ih qN;have hw:ip m (wv m b s) (wv m b s)=0:=by rw[wv_wv,h0,aCu]
   have hz:=ip_zero hw;refine h ?_;unfold dm;rw[dG_det];refine kernel_det (i:=s) qN (u:=fun i=>if i≤s then cf (gr m b) s (s-i)else 0) ?_ fun j hj=>?_
   ·simp only[aBX (aBY s),aEd];rw[cf_zero];exact hs0
   ·have h1:ip m (wv m b s) (b j)=0:=fM fun c hc=>by rw[hz c hc,aDe]
    rw[ip_wv]at h1;obtain⟨e,he⟩:∃e,n=(s+1)+e:=⟨n-(s+1),qN⟩;rw[he,vO,fM (n:=e) fun i hi=>by simp only[aBU (show ¬s+1+i≤s by omega),aDe],aER,←h1,←isum_rev];refine bS fun r hr=>?_;simp only[show s+1-1-r≤s by omega,aDq];rw[show s-(s+1-1-r)=r by omega,show s+1-1-r=s-r by omega,aCO];rfl
 exact fun t ht=>dG_pos (n:=n) hne t ht
theorem vol_of_ind(h:Ind m n b):dm m b n≠0:=by have:=h n (aBY _);omega
end
section
variable {a b b' u:Mx} {m n D K k:Nat}
theorem redr_lb(hm:m<18446744073709551616)(hk:k<n):∀(j:Nat) {b u:Mx} {K:Nat},j≤k→LB a m n D K b u→∃K',LB a m n D K' (pK m k j b u).1 (pK m k j b u).2
 |0,_,_,K,_,h=>⟨K,h⟩
 |j+1,_,_,_,hj,h=>by rw[pX];exact redr_lb hm hk j qN (h.redq hk qN (h.qz hm hk qN))
theorem redr_rows:∀(j:Nat) (b u:Mx) (i c:Nat),i≠k→(pK m k j b u).1 i c=b i c
 |0,_,_,_,_,_=>rfl
 |j+1,b,u,i,c,h=>by rw[pX,redr_rows j _ _ i c h];unfold redq;rw[aBU h]
theorem redr_LB(hm:m<18446744073709551616)(hk:k<n)(hK:n*(D+1)≤K)(h:LB a m n D K b u):LB a m n D K (pK m k k b u).1 (pK m k k b u).2:=by obtain⟨w,ws⟩:=tO (u:=u) hk h.ind;obtain⟨K',h'⟩:=redr_lb hm hk k (aBY _) h;exact h.full hk hK w ws (fun i c hi=>redr_rows k _ _ i c hi) h'.ua h'.un
theorem lrun_LB(hm:m<18446744073709551616)(hK:n*(D+1)≤K):∀ {f:Nat} {b u:Mx} {k:Nat} {R:Mx×Mx},rF m n f b u k=some R→1≤k→LB a m n D K b u→LB a m n D K R.1 R.2
 |0,b,u,k,R,h,_,_=>by simp[rF]at h
 |f+1,b,u,k,R,h,hk,hb=>by
  rw[rF]at h
  split at h
  ·obtain rfl:(b,u)=R:=by simpa using h
   exact hb
  ·rename_i hn;have h1:=redr_LB hm (show k<n by omega) hK hb
   split at h
   ·exact lrun_LB hm hK h qN h1
   ·rename_i hf;exact lrun_LB hm hK h qN (h1.swb hk qN hf)
end
theorem rv_vv(r:Row):rv r=fun c=>(vv r).getD c 0:=by
 funext c
 unfold rv
 by_cases h:c<r.length
 ·exact(jZ r c h).symm
 ·rw[gE,gE,aCf qN,aCf (by rw[cB];omega)];rfl
theorem rvm_ww(m:List Row):rvm m=mx (ww m):=by
 funext i c
 unfold rvm mx;rw[rv_vv,pG]
theorem rvm_cn(M:List aAd):rvm (M.map (·.map cn))=mx M:=by rw[rvm_ww,ww_cn]
noncomputable def lrr(m n:Nat)(B:Mx):Mx×Mx:=Classical.epsilon fun R=>∃f,rF m n f B one 1=some R
theorem lrr_spec{m n:Nat}{B:Mx}(h:Ind m n B):∃f,rF m n f B one 1=some (lrr m n B):=by
 have h1:∃R,∃f,rF m n f B one 1=some R:=by obtain⟨f,R,h⟩:=vM (m:=m) (n:=n) _ B one 1 (aBY _) h (aBY _);exact⟨R,f,h⟩
 exact Classical.epsilon_spec h1
theorem lrr_eq{m n f:Nat}{B:Mx}{R:Mx×Mx}(hi:Ind m n B)(h:rF m n f B one 1=some R):lrr m n B=R:=by obtain⟨g,hg⟩:=lrr_spec hi;exact lrun_one hg h
theorem linD_dm(a:List Row):linD a=dm (a.getD 0 []).length (rvm a) a.length:=by unfold linD gmx dm;rw[dG_det]
theorem aAC(a:List Row):Ind (a.getD 0 []).length a.length (rvm a)↔linD a≠0:=by rw[linD_dm];exact⟨vol_of_ind,ind_of_vol⟩
noncomputable def lrd(a:List Row):Mx×Mx:=lrr (a.getD 0 []).length a.length (rvm a)
noncomputable def lred(a:List Row):List aAd×List aAd×Int :=if right a then(if linD a=0 then([],[],8)else(matL a.length (a.getD 0 []).length (lrd a).1,matL a.length a.length (lrd a).2,0))else([],[],1)
theorem lReduceT(v:Value)(a:List Row)(k:Nat)(hf:Fits k a)(hk:k≤1048576)(ln:a.length≤1024)(lc:(a.getD 0 []).length≤1048576)(hZ:lZ k a.length≤268435456):aAb 30 [v] [(v,W a)] (fun r os fs=>os=[]∧∃q w,r=.tuple #[q,w,.int .i64 (lred a).2.2]∧fs=[(q,wd (lred a).1),(w,wd (lred a).2.1)]):=by
 refine(lReduce_meets v a k (lrd a) hf hk ln lc hZ fun _ h=>lrr_spec h).closed ?_;rintro r os fs ⟨rfl,⟨h,rfl,rfl⟩|⟨h,hi,rfl,rfl⟩|⟨h,hi,q,w,vs,ws,h1,h2,h3,h4,rfl,rfl⟩⟩
 ·have e:lred a=([],[],1):=aBU h;exact⟨_,_,⟨rfl,_,_,by rw[e],rfl⟩,a0 (by rw[e];exact c8 1 _) (a0 (by rw[e];exact c8 1 _) (Seals.refl _ _))⟩
 ·have e:lred a=([],[],8):=by unfold lred;rw[aBX h,aBX (aCR fun hne=>hi ((aAC a).2 hne))]
  exact⟨_,_,⟨rfl,_,_,by rw[e],rfl⟩,a0 (by rw[e];exact c8 1 _) (a0 (by rw[e];exact c8 1 _) (Seals.refl _ _))⟩
 ·have e:lred a=(matL a.length (a.getD 0 []).length (lrd a).1,matL a.length a.length (lrd a).2,0):=by unfold lred;rw[aBX h,aBU ((aAC a).1 hi)]
  refine⟨_,_,⟨rfl,q,w,by rw[e],rfl⟩,?_⟩;rw[e];exact aC (Seals.made h1 h3) (aC (Seals.made h2 h4) (aA qS))
def tG(M:List aAd):Mx:=gr (M.getD 0 []).length (mx M)
theorem gmx_cn(M:List aAd):gmx (M.map (·.map cn))=tG M:=by unfold gmx tG;rw[rvm_cn,aAJ,aBV]
theorem linD_cn(M:List aAd):linD (M.map (·.map cn))=det M.length (tG M):=by unfold linD;rw[gmx_cn,aBV]
theorem lred_cn{M R1 R2:List aAd}{f:Nat}(hr:right M)(hd:det M.length (tG M)≠0)(h:(rF (M.getD 0 []).length M.length f (mx M) one 1).map (fun R=>(matL M.length (M.getD 0 []).length R.1,matL M.length M.length R.2))=some (R1,R2)):lred (M.map (·.map cn))=(R1,R2,0):=by
 have hC:((M.map (·.map cn)).getD 0 []).length=(M.getD 0 []).length:=by rw[aAJ,aBV]
 unfold lred;rw[aBX ((right_cn M).2 hr),linD_cn,aBU hd];obtain⟨R,e1,e2⟩:=Option.map_eq_some_iff.1 h;have hi:Ind ((M.map (·.map cn)).getD 0 []).length (M.map (·.map cn)).length (rvm (M.map (·.map cn))):=(aAC _).2 (by rw[linD_cn];exact hd);have e3:lrd (M.map (·.map cn))=R:=by unfold lrd;rw[rvm_cn,hC,aBV];rw[rvm_cn,hC,aBV]at hi;exact lrr_eq hi e1
 rw[e3,hC,aBV];simp only[Prod.mk.injEq]at e2;rw[e2.1,e2.2]
theorem exallT(v w:Value)(x y:aAd)(h:x=y):aAb 26 [v,w] [(v,vd x),(w,vd y)] (aAa (.bool true)):=by have:=exactAllW v w x y;rw[aCn h]at this;exact this
noncomputable def M1(a:List Row):List aAd:=matL a.length (a.getD 0 []).length (lrd a).1
noncomputable def M2(a:List Row):List aAd:=matL a.length a.length (lrd a).2
theorem M1_at(a:List Row){i c:Nat}(hi:i<a.length)(hc:c<(a.getD 0 []).length):mx (M1 a) i c=(lrd a).1 i c:=matL_at _ hi hc
structure Rdd(a:List Row)(k:Nat):Prop where
 lb:LB (rvm a) (a.getD 0 []).length a.length (lD k a.length) (lK k a.length) (lrd a).1 (lrd a).2
 rd:Rdc (a.getD 0 []).length (lrd a).1 a.length
 dn:dm (a.getD 0 []).length (lrd a).1 a.length=dm (a.getD 0 []).length (rvm a) a.length
theorem rdd{a:List Row}{k:Nat}(hf:Fits k a)(hr:right a)(ln:a.length≤1024)(lc:(a.getD 0 []).length≤1048576)(hI:Ind (a.getD 0 []).length a.length (rvm a)):Rdd a k:=by
 obtain⟨f,hf'⟩:=lrr_spec hI;have hs:=(Sv.start hf lc ln hI).lb;have hn:=hr.1;obtain⟨h1,h2,h3⟩:=lrun_red hf' (aBY _) qN hI fun i h1 h2=>by omega
 exact⟨lrun_LB qN (by unfold lK;omega) hf' (aBY _) hs,h1,h3⟩
section
variable {a:List Row} {k:Nat}
theorem Rdd.len(_:Rdd a k):(M1 a).length=a.length:=matL_len _ _ _
end
theorem lred_ok{a:List Row}(hr:right a)(hI:Ind (a.getD 0 []).length a.length (rvm a)):lred a=(M1 a,M2 a,0):=by unfold lred;rw[aBX hr,aBU ((aAC a).1 hI)];rfl
structure Lil(P:aAd)(m t y:Int)(d n:Nat):Prop where
 ok:rU P m t y n
 dg:dg P=d+1
 n1:1≤n
 n2:n≤2
 dn:d*n≤4
 d1:1≤d
 P1:szR 1 P
 Pl:P.length≤4
 m1:sz m 1
 t1:sz t 1
 y1:sz y 1
def lA(P:aAd)(m t y:Int)(d n:Nat):List aAd:=(shp d n).map fun s=>tC (shp d n) (eF t) (eF y) (xI P m n s)
section
variable {P:aAd} {m t y:Int} {d n:Nat}
theorem Lil.pos(h:Lil P m t y d n):1≤m∧0≤t∧0≤y:=h.ok.2
theorem Lil.len(h:Lil P m t y d n):(shp d n).length≤9:=by
 obtain⟨h1,h2,h3,h4⟩:=And.intro h.n1 (And.intro h.n2 (And.intro h.dn h.d1));have hn:n=1∨n=2:=qN;rcases hn with rfl|rfl
 ·have hd:d=1∨d=2∨d=3∨d=4:=qN;rcases hd with rfl|rfl|rfl|rfl<;>decide
 ·have hd:d=1∨d=2:=qN;rcases hd with rfl|rfl<;>decide
theorem lst1_pos{x:Int}(h:0≤x):1≤eF x:=by unfold eF;split<;>omega
theorem Lil.sz(h:Lil P m t y d n):SzOk P m d n (eF t) (eF y) :=⟨h.dg,h.d1,h.pos.1,lst1_pos h.pos.2.1,lst1_pos h.pos.2.2,by have:=h.len;omega⟩
theorem Lil.mat(h:Lil P m t y d n):matR P m t y n=(lA P m t y d n,0):=by unfold matR;rw[aBX h.ok,h.dg,aCH,aCW];rfl
theorem lA_len(P:aAd)(m t y:Int)(d n:Nat):(lA P m t y d n).length=(shp d n).length:=aBV _
theorem lA_row{P:aAd}{m t y:Int}{d n i:Nat}(hi:i<(shp d n).length):(lA P m t y d n).getD i []=tC (shp d n) (eF t) (eF y) (xI P m n ((shp d n).getD i (0,0))):=by unfold lA;simp[gE,hi]
theorem rowV_len(s:List (Nat×Nat))(T Y:Int)(G:List aAd):(tC s T Y G).length=s.length:=aBV _
theorem lA_mx{P:aAd}{m t y:Int}{d n i c:Nat}(hi:i<(shp d n).length)(hc:c<(shp d n).length):mx (lA P m t y d n) i c=amat P m d n (eF t) (eF y) i c:=by unfold mx;rw[lA_row hi];unfold tC amat;simp[gE,hc]
theorem Lil.n0(_:Lil P m t y d n):0<(shp d n).length:=by have:=vC d n;omega
theorem Lil.row0(h:Lil P m t y d n):((lA P m t y d n).getD 0 []).length=(shp d n).length:=by rw[lA_row h.n0,rowV_len]
theorem Lil.right(h:Lil P m t y d n):right (lA P m t y d n):=by have h0:=h.n0;refine⟨by rw[lA_len];exact h0,fun r hr=>?_⟩;rw[h.row0];obtain⟨s,_,rfl⟩:=aCo.1 hr;rw[rowV_len];exact⟨h0,rfl⟩
theorem Lil.ent(h:Lil P m t y d n){s:Nat×Nat}(hs:s∈shp d n)(u v:Nat):Go.Proofs.YtjebljkoiaojaaaGreat.sz (gv (xI P m n s) u v) 7:=by
 have h1:=h.sz.small hs;have hd4:d≤4:=by have:=aB6 d h.n1;have:=h.dn;omega
 have h2:szR 1 (nrm P):=h.P1.nrm;have hl:Lg (toW (jK (nrm P))) (jK (nrm P)) 1 5:=(glJ_lg h2 (aBY _) (by have:(nrm P).length=d+1:=h.dg;omega) qE).toW;have hn2:=h.n2;have h3:Go.Proofs.YtjebljkoiaojaaaGreat.sz (m^(n-s.2)) 3:=(kH h.m1 (n-s.2)).mono qN;have h4:=gpw_lg hl (gone_lg (n:=24) h3 (show s.1+1≤24 by omega)) qE s.2 (by have:s.2*5≤2*5:=aBZ _ qN;omega);exact(h4.gv u v).mono (by have:s.2*(1+1)≤2*(1+1):=aBZ _ qN;omega)
theorem Lil.small(h:Lil P m t y d n){s:Nat×Nat}(hs:s∈shp d n):s.1≤4∧s.2≤4∧s.2≤n:=by have h1:=h.sz.small hs;have h2:d*(n-s.2)≤d*n:=aB6 _ qN;have:=h.dn;have:=h.n2;omega
theorem Lil.scl(h:Lil P m t y d n){s:Nat×Nat}(hs:s∈shp d n):Go.Proofs.YtjebljkoiaojaaaGreat.sz (i9 (eF t) (eF y) s) 10 :=(sclV_sz (vL h.t1 (aBY _)) (vL h.y1 (aBY _)) ⟨(h.small hs).1,(h.small hs).2.1⟩).mono qE
theorem Lil.szM(h:Lil P m t y d n):szM 17 (lA P m t y d n):=fun r hr x hx=>by obtain⟨s,hs,rfl⟩:=aCo.1 hr;obtain⟨p,hp,rfl⟩:=aCo.1 hx;exact(h.ent hs p.1 p.2).mul (h.scl hp)
theorem Lil.fits(h:Lil P m t y d n):Fits 17 ((lA P m t y d n).map (·.map cn)):=h.szM.fits
theorem map_right{M:List aAd}(h:Go.Proofs.YtjebljkoiaojaaaGreat.right M):Go.Proofs.YtjebljkoiaojaaaGreat.right (M.map (·.map cn)):=by
 have h0:((M.map (·.map cn)).getD 0 []).length=(M.getD 0 []).length:=by simp[gE,h.1]
 refine⟨by rw[aBV];exact h.1,fun r hr=>?_⟩;obtain⟨l,hl,rfl⟩:=aCo.1 hr;rw[h0,aBV];exact h.2 l hl
theorem map_row0{M:List aAd}(h:Go.Proofs.YtjebljkoiaojaaaGreat.right M):((M.map (·.map cn)).getD 0 []).length=(M.getD 0 []).length:=by simp[gE,h.1]
abbrev lW(P:aAd)(m t y:Int)(d n:Nat):List Row:=(lA P m t y d n).map (·.map cn)
theorem rX(P:aAd)(m t y:Int)(d n:Nat):(lW P m t y d n).length=(shp d n).length:=by rw[aBV,lA_len]
theorem Lil.wrow0(h:Lil P m t y d n):((lW P m t y d n).getD 0 []).length=(shp d n).length:=by rw[map_row0 h.right,h.row0]
theorem lW_rvm(P:aAd)(m t y:Int)(d n:Nat):rvm (lW P m t y d n)=mx (lA P m t y d n):=rvm_cn _
theorem Lil.ind(h:Lil P m t y d n):Ind ((lW P m t y d n).getD 0 []).length (lW P m t y d n).length (rvm (lW P m t y d n)):=by refine(aAC _).2 ?_;unfold linD gmx;rw[rX,h.wrow0,lW_rvm];have e:det (shp d n).length (gr (shp d n).length (mx (lA P m t y d n)))=det (shp d n).length (mm (shp d n).length (mx (lA P m t y d n)) (tp (mx (lA P m t y d n)))):=rfl;rw[e,det_mul,uK,cY (B:=amat P m d n (eF t) (eF y)) fun i j hi hj=>lA_mx hi hj];exact aCY h.sz.det_ne h.sz.det_ne
noncomputable def lR(P:aAd)(m t y:Int)(d n:Nat):List aAd:=M1 (lW P m t y d n)
theorem Lil.red(h:Lil P m t y d n):lred (lW P m t y d n)=(lR P m t y d n,M2 (lW P m t y d n),0):=lred_ok (map_right h.right) h.ind
theorem Lil.rdd(h:Lil P m t y d n):Rdd (lW P m t y d n) 17:=Go.Proofs.YtjebljkoiaojaaaGreat.rdd h.fits (map_right h.right) (by rw[rX];have:=h.len;omega) (by rw[h.wrow0];have:=h.len;omega) h.ind
theorem Lil.rlen(h:Lil P m t y d n):(lR P m t y d n).length=(shp d n).length:=by rw[lR,h.rdd.len,rX]
theorem Lil.rrow(h:Lil P m t y d n){i:Nat}(hi:i<(shp d n).length):((lR P m t y d n).getD i []).length=(shp d n).length:=by unfold lR M1;rw[matL_row _ (by rw[rX];exact hi),h.wrow0];simp
theorem Lil.lb(h:Lil P m t y d n):LB (mx (lA P m t y d n)) (shp d n).length (shp d n).length (lD 17 (shp d n).length) (lK 17 (shp d n).length) (lrd (lW P m t y d n)).1 (lrd (lW P m t y d n)).2:=by have:=h.rdd.lb;rw[h.wrow0,rX,lW_rvm]at this;exact this
theorem Lil.rat(h:Lil P m t y d n){i c:Nat}(hi:i<(shp d n).length)(hc:c<(shp d n).length):((lR P m t y d n).getD i []).getD c 0=(lrd (lW P m t y d n)).1 i c :=M1_at (lW P m t y d n) (by rw[rX];exact hi) (by rw[h.wrow0];exact hc)
theorem lK_le{N:Nat}(h:N≤9):lK 17 N≤4000∧lZ 17 N≤268435456:=by have hN:N=0∨N=1∨N=2∨N=3∨N=4∨N=5∨N=6∨N=7∨N=8∨N=9:=qN;rcases hN with rfl|rfl|rfl|rfl|rfl|rfl|rfl|rfl|rfl|rfl<;>decide
theorem Lil.rsz(h:Lil P m t y d n){i:Nat}(hi:i<(shp d n).length):szR 4000 ((lR P m t y d n).getD i []):=fun x hx=>by
 obtain⟨c,hc,rfl⟩:=mem_getD 0 hx;have hc':c<(shp d n).length:=by rw[←h.rrow hi];exact hc
 rw[h.rat hi hc'];exact(h.lb.bz i c hi hc').mono (lK_le h.len).1
theorem Lil.hm(h:Lil P m t y d n):Go.Proofs.YtjebljkoiaojaaaGreat.sz (m^n) 3:=(kH h.m1 n).mono (by have:=h.n2;omega)
noncomputable def lF(P:aAd)(m t y:Int)(d n:Nat):aAd×Bool:=rZ (shp d n) (eF t) (eF y) (m^n) (lR P m t y d n)
theorem two_rows(h:Lil P m t y d n):2≤(shp d n).length:=by have:=vC d n;have h1:=aCb h.d1 h.n1;omega
theorem Lil.gsz(h:Lil P m t y d n){i:Nat}(hi:i<(shp d n).length)(hs:lV ((lR P m t y d n).getD i [])<m^n):supp d (d*n) (iF (shp d n) (eF t) (eF y) ((lR P m t y d n).getD i []))∧∀u v,(gv (iF (shp d n) (eF t) (eF y) ((lR P m t y d n).getD i [])) u v).natAbs≤(m^n).natAbs:=by
 have hb:∀p,p∈shp d n→p.1≤100∧p.2≤100:=fun p hp=>by have:=h.small hp;omega
 constructor
 ·intro u v hne;rw[xT hb]at hne;rcases aAP (s:=shp d n) (T:=eF t) (Y:=eF y) (R:=(lR P m t y d n).getD i []) (u:=u) (v:=v) (shp d n).length with ⟨j,hj,_,e⟩|e
  ·have hm:(u,v)∈shp d n:=by rw[←e];exact dV (0,0) hj
   have h1:=vB.1 hm;have h2:d*(n-v)+d*v=d*n:=by rw[←aB8];congr 1;omega
   omega
  ·exact absurd e hne
 ·intro u v;rw[xT hb];rcases aAP (s:=shp d n) (T:=eF t) (Y:=eF y) (R:=(lR P m t y d n).getD i []) (u:=u) (v:=v) (shp d n).length with ⟨j,hj,e,_⟩|e
  ·rw[e];have h1:=Int.natAbs_ediv_le_natAbs (((lR P m t y d n).getD i []).getD j 0) (i9 (eF t) (eF y) (u,v));have h2:=asum_mem (dV 0 (l:=(lR P m t y d n).getD i []) (i:=j) (by rw[h.rrow hi];exact hj));omega
  ·rw[e];simp
theorem Lil.fsz(h:Lil P m t y d n)(hf:(lF P m t y d n).2=true):szR 9 (lF P m t y d n).1∧(lF P m t y d n).1.length≤9∧0<Go.Proofs.YtjebljkoiaojaaaGreat.dg (lF P m t y d n).1∧lV ((lR P m t y d n).getD 0 [])<m^n∧lV ((lR P m t y d n).getD 1 [])<m^n ∧ (lF P m t y d n).1=gel (iF (shp d n) (eF t) (eF y) ((lR P m t y d n).getD 0 [])) (iF (shp d n) (eF t) (eF y) ((lR P m t y d n).getD 1 [])):=by
 have h2:=two_rows h
 by_cases hs:lV ((lR P m t y d n).getD 0 [])<m^n∧lV ((lR P m t y d n).getD 1 [])<m^n
 ·have e:lF P m t y d n=_:=aBX hs;obtain⟨g1,g2⟩:=h.gsz (i:=0) qN hs.1;obtain⟨g3,g4⟩:=h.gsz (i:=1) qN hs.2;rw[e]at hf⊢;dsimp only at hf⊢;have hl9:=gel_len9 g1 g3 h.d1 h.n2 h.dn;generalize hGE:gel (iF (shp d n) (eF t) (eF y) ((lR P m t y d n).getD 0 [])) (iF (shp d n) (eF t) (eF y) ((lR P m t y d n).getD 1 []))=E at *;refine⟨?_,hl9,of_decide_eq_true hf,hs.1,hs.2,rfl⟩;rw[←hGE];clear hl9 hf e;clear hGE;clear E;have h3:=kH h.m1 n;refine gel_sz9 g1 g3 h.d1 h.n2 h.dn (M:=(m^n).natAbs) ?_ g2 g4;have h4:(m.natAbs)<18446744073709551616:=by have:=h.m1;unfold Go.Proofs.YtjebljkoiaojaaaGreat.sz at this;omega
  have h5:=h.n1;have h6:=h.n2;rw[aE2];have hn:n=1∨n=2:=qN;rcases hn with rfl|rfl
  ·rw[Nat.pow_one];exact aDa h4 (aCT rfl)
  ·exact Nat.pow_lt_pow_left h4 qE
 ·have e:lF P m t y d n=([],false):=by unfold lF rZ;rw[aBU hs]
  rw[e]at hf;simp at hf
end
structure SolveOk(P:aAd)(m t y:Int)(d n:Nat)(L:aAd)(dec:Bool):Prop where
 und:(lF P m t y d n).2=false→L=[]∧dec=false
 ok:(lF P m t y d n).2=true→dec=true∧∃O e,FlSpec (lF P m t y d n).1 (-t) t O e∧L=(vQ (lF P m t y d n).1 O).filter fun x=>zN (pev P x) m y
theorem ch9:Ch0 9 9 2:=⟨qE,qE,qE,qE,qE,qE⟩
theorem aAS{f:Int→Bool}{L:aAd}{i:Nat}(h:i<L.length):(L.take (i+1)).filter f=if f (L.getD i 0)=true then(L.take i).filter f++[L.getD i 0]else(L.take i).filter f:=by
 rw[aDs,aB2 h,aGf,gE,aB2 h];simp only[Option.toList,aDr,List.filter_cons,List.filter_nil]
 split<;>simp
theorem slzSolve_bad(v w u z:Value)(p:Row)(m t y:Bool×aAe)(n:Int)(k a:Nat)(hp:Fit k p)(lp:p.length≤1000)(hk:k≤10000)(hm:Lim m.2)(hma:m.2.length≤a)(ht:Lim t.2)(hta:t.2.length≤a)(hy:Lim y.2)(hya:y.2.length≤a)(ha:a≤10000)(hn:inK .i64 n)(hok:¬rU (vv p) (jv m) (jv t) (jv y) n):aAb 28 [v,w,u,z,.int .i64 n] [(v,V p),(w,J m),(u,J t),(z,J y)] (fun r os fs=>os=[]∧∃q,r=.tuple #[q,.bool false,.int .i64 1]∧fs=[(q,vd [])]):=by have hpl:=fun y1 y2 y3=>lY v y1 y2 y3 p m t y n k a hp lp qN hm hma ht hta hy hya ha hn;rw[show zF (vv p) (jv m) (jv t) (jv y) n=(fK,1)from aBU hok]at hpl;refine mV Tryz.func28 ?_;refine bD (aB (d:=J m) qM) fun b1 h1=>bD (aB (d:=J t) qM) fun b2 h2=>bD (aB (d:=J y) qM) fun b3 h3=>aD (d:=J m) 2 rfl h1 rfl (aR _) fun y1=>aD (d:=J t) 1 rfl h2 rfl (aR _) fun y2=>aD (d:=J y) 0 rfl h3 rfl (aR _) fun y3=>cF (hpl y1 y2 y3) ?_;rintro _ _ _ ⟨rfl,q,rfl,rfl⟩;refine aG (d:=fK) fun bp hbp=>aF (d:=fK) 0 rfl hbp rfl qK (aB qM)<|cI rfl qE<|fin ⟨rfl,.slice none 0 0,rfl,rfl⟩ (dS (dS (dS (dS (a0 (c8 2 _) (aH _ _))))))
set_option maxHeartbeats 4000000 in
theorem yK(v w u z:Value)(p:Row)(m t y:Bool×aAe)(d n:Nat)(hp:Fit 1 p)(hm:Lim m.2)(hma:m.2.length≤1)(ht:Lim t.2)(hta:t.2.length≤1)(hy:Lim y.2)(hya:y.2.length≤1)(h:Lil (vv p) (jv m) (jv t) (jv y) d n):aAb 28 [v,w,u,z,.int .i64 (n:Int)] [(v,V p),(w,J m),(u,J t),(z,J y)] (fun r os fs=>os=[]∧∃q L dec,r=.tuple #[q,.bool dec,.int .i64 0]∧SolveOk (vv p) (jv m) (jv t) (jv y) d n L dec∧fs=[(q,vd L)]):=by
 have lp:p.length≤4:=by have:=h.Pl;rwa [cB]at this
 have hn2:=h.n2;have hin:inK .i64 (n:Int):=by simp only[inK];omega
 have hpl:=fun y1 y2 y3=>lY v y1 y2 y3 p m t y n 1 1 hp qN qE hm hma ht hta hy hya qE hin;rw[show zF (vv p) (jv m) (jv t) (jv y) n=(kZ (shp (dg (vv p)-1) (n:Int).toNat) (eF (jv t)) (eF (jv y)) (jv m^(n:Int).toNat),0)from aBX h.ok,h.dg,aCH,aCW]at hpl;have hmx:=fun y1 y2 y3=>pS v y1 y2 y3 p m t y n 1 1 hp qN qE qE hm hma ht hta hy hya qE qE hin;rw[h.mat]at hmx;have h9:=h.len;have hrd:∀y1,aAb 30 [y1] [(y1,wd (lA (vv p) (jv m) (jv t) (jv y) d n))] (fun r os fs=>os=[]∧∃q w,r=.tuple #[q,w,.int .i64 0]∧fs=[(q,wd (lR (vv p) (jv m) (jv t) (jv y) d n)),(w,wd (M2 (lW (vv p) (jv m) (jv t) (jv y) d n)))]):=fun y1=>by have:=lReduceT y1 (lW (vv p) (jv m) (jv t) (jv y) d n) 17 h.fits qE (by rw[rX];omega) (by rw[h.wrow0];omega) (by rw[rX];exact(lK_le h9).2);rw[h.red]at this;exact this
 have h22:=two_rows h;have hfd:=fun y1 y2=>slzfound_meets y1 y2 (shp d n) (eF (jv t)) (eF (jv y)) (jv m^n) (lR (vv p) (jv m) (jv t) (jv y) d n) 4000 10 3 (fun p hp=>by have:=h.small hp;omega) qN (by rw[h.rlen];omega) (fun i hi=>⟨h.rrow qN,h.rsz qN⟩) qE
  (fun s hs=>⟨h.scl hs,sclV_ne (lst1_ne _) (lst1_ne _) s⟩) qE h.hm qE
 have hfz:=h.fsz;have hlF:rZ (shp d n) (eF (jv t)) (eF (jv y)) (jv m^n) (lR (vv p) (jv m) (jv t) (jv y) d n)=lF (vv p) (jv m) (jv t) (jv y) d n:=rfl;rw[hlF]at hfd;have hS:∀L dec,((lF (vv p) (jv m) (jv t) (jv y) d n).2=false→L=[]∧dec=false)→((lF (vv p) (jv m) (jv t) (jv y) d n).2=true→dec=true∧∃O e,FlSpec (lF (vv p) (jv m) (jv t) (jv y) d n).1 (-jv t) (jv t) O e∧L=(vQ (lF (vv p) (jv m) (jv t) (jv y) d n).1 O).filter fun x=>zN (pev (vv p) x) (jv m) (jv y))→SolveOk (vv p) (jv m) (jv t) (jv y) d n L dec:=fun L dec a b=>⟨a,b⟩;have hm0:=h.pos.1;have hP:=h.P1;have zt:=h.t1;clear h;generalize lF (vv p) (jv m) (jv t) (jv y) d n=F at *;generalize lR (vv p) (jv m) (jv t) (jv y) d n=R at *;generalize lA (vv p) (jv m) (jv t) (jv y) d n=A at *;generalize M2 _=U at *;generalize hSS:shp d n=S at *;generalize jv m^n=M at *;generalize eF (jv t)=T at *;generalize eF (jv y)=Y at *;obtain⟨f,b⟩:=F;simp only at hfd hfz hS;refine mV Tryz.func28 ?_;refine bD (aB (d:=J m) qM) fun b1 h1=>bD (aB (d:=J t) qM) fun b2 h2=>bD (aB (d:=J y) qM) fun b3 h3=>aD (d:=J m) 2 rfl h1 rfl (aR _) fun y1=>aD (d:=J t) 1 rfl h2 rfl (aR _) fun y2=>aD (d:=J y) 0 rfl h3 rfl (aR _) fun y3=>cF (hpl y1 y2 y3) ?_;rintro _ _ _ ⟨rfl,q,rfl,rfl⟩;refine aG (d:=fK) fun bp hbp=>aF (d:=kZ S T Y M) 0 rfl hbp rfl qK (aB qM)<|bY rfl (fun h=>h rfl)<|aD (d:=J m) 3 rfl h1 rfl (aR _) fun y4=>aD (d:=J t) 2 rfl h2 rfl (aR _) fun y5=>aD (d:=J y) 1 rfl h3 rfl (aR _) fun y6=>cF (hmx y4 y5 y6) ?_;rintro _ _ _ ⟨rfl,q2,rfl,rfl⟩;refine cF (hrd q2) ?_;rintro _ _ _ ⟨rfl,q3,q4,rfl,rfl⟩;refine aD (d:=kZ S T Y M) 0 rfl hbp rfl (t9 _ _ _ _) fun y7=>cF (hfd y7 q3) ?_;rintro _ _ _ ⟨rfl,q5,rfl,rfl⟩
 cases b with
 |false =>
  exact fin ⟨rfl,.slice none 0 0,[],false,rfl,hS _ _ (fun _=>⟨rfl,rfl⟩) (fun h=>by simp at h),rfl⟩ (dS (dS (dS (dS (a0 (c8 2 _) (aH _ _))))))
 |true =>
  obtain⟨sf,lf,df,_,_,_⟩:=hfz rfl;have hch:ChOk (vv (f.map cn)) 9 9 (1+1):=ch9.of sf.fit (by rw[aBV];exact lf);have hIn:=fun y1 y2=>in_meets q5 y1 y2 (f.map cn) (cn (-jv t)) t 9 9 1 sf.fit (by rw[aBV];exact lf) (aV _) zt.neg.len ht hta qE qE hch;simp only[dX,dJ]at hIn;have hng:=fun y1=>zneg_meets y1 t.1 t.2 ht qN;have hit:iv t.1 t.2=jv t:=rfl;rw[hit]at hng;refine aY [0,1,3,2,4,5,6,7,8,9] [0,1,2,3,4,5,6,8,7,9] qK qK<|aD (d:=J t) 2 rfl h2 rfl (aR _) fun y8=>aD (d:=J t) 2 rfl h2 rfl (aR _) fun y9=>cG (hng y8) fun y10=>cF (hIn y10 y9) ?_;rintro _ _ _ ⟨rfl,q6,O,e,rfl,hO,rfl⟩;have aAy:∀x,x∈vQ f O→sz x 1:=fun x hx=>by have h1:=(aFa.1 hx).1;have h2:=hO.mem x h1;exact pI zt.neg zt h2.1 h2.2
  have hfew:(vQ f O).length≤1048578:=aBW (aEg _ _) hO.few;have hRes:=hS ((vQ f O).filter fun x=>zN (pev (vv p) x) (jv m) (jv y)) true (fun h=>by simp at h) fun _=>⟨rfl,O,e,hO,rfl⟩;clear hS hO hIn hch hng hfd hrd hmx hpl hfz;generalize vQ f O=Is at *;refine aT (v:=q6) (n:=(Is.map cn).length) qM fun _=>aO (X:=Nat×Value) (fun x=>([(0,v),(6,b1),(8,b3),(24,x.2),(70,q6),(71,.int .i64 ((Is.map cn).length:Nat)),(72,.int .i64 (x.1:Nat))],
    [fV 2 J z0 x.2 (((Is.take x.1).filter fun x=>zN (pev (vv p) x) (jv m) (jv y)).map cn),bN b3 2 1 (fun _=>J y),bN b1 2 1 (fun _=>J m)],[(q6,vd Is),(v,V p)]))
   (fun x=>x.1≤(Is.map cn).length∧isSl x.2) (fun x=>(Is.map cn).length-x.1) rfl ?_ ?_
  ·refine aS (0,.slice none 0 0) ⟨aB3 _,fP⟩ aB0 qF<|dS (aC (aZ 1 _ _) (aC (cX _ _ 2 fun i=>J (([]:Row).getD i z0)) (aA qS)))
  rintro⟨i,ov⟩ ⟨hi,hov⟩;simp only[aBV]at hi⊢;simp only at hov⊢;have hli:(((Is.take i).filter fun x=>zN (pev (vv p) x) (jv m) (jv y)).map cn).length≤1048578:=by rw[aBV];refine aBW (aEg _ _) ?_;rw[aCr];omega
  refine aE _ rfl (fun hlt=>?_) (fun hlt=>?_)
  ·have hiI:i<Is.length:=qN;have hfs:=aAS (f:=fun x=>zN (pev (vv p) x) (jv m) (jv y)) hiI;have hcg:=eD hiI;have zx:=aAy _ (dV 0 hiI);refine aJ (v:=q6) qM i rfl (by rw[aBV];exact hiI) fun a1=>aK (d:=J ((Is.map cn).getD i z0)) qM (aR _) fun y11=>?_;rw[hcg];generalize Is.getD i 0=X at *;have hv:=fun z=>pValueJ v z p (cn X) 1 1 hp (aV _) zx.len qN qN;rw[dJ]at hv;have zv:sz (pev (vv p) X) 1073741824:=(ev_sz hP zx).mono (by rw[cB];omega);have hw:=fun y1 y2 y3=>mM y1 y2 y3 (pev (vv p) X) m y _ zv qE hm qN hy qN qN;generalize pev (vv p) X=Z at *;refine aG (d:=I false []) fun bx hbx=>aF (d:=zd X) 0 rfl hbx rfl qK (aB (v:=y11) (d:=zd X) qM)<|aY [0,1,3,4,2,5] [0,1,2,3,4,5] qK qK<|aD (d:=zd X) 0 rfl hbx rfl (aM _ _) fun y12=>aD (d:=J m) 3 rfl h1 rfl (aR _) fun y13=>aD (d:=J y) 2 rfl h3 rfl (aR _) fun y14=>cG (hv y12) fun y15=>cH (hw y15 y13 y14) ?_
   cases hne:zN Z (jv m) (jv y)with
   |true =>
    rw[aBX hne]at hfs;refine aD (d:=zd X) 0 rfl hbx rfl (aM _ _) fun y16=>fY (size:=2) J z0 (cn X) qE (aB (v:=y16) (d:=zd X) qM) rfl fun l1=>cW 1 rfl hov (bA qM) (by simp only[aB1,aB4];omega) (by simp only[aB1,aB4];omega) fun o2 ho2=>ar rfl qI<|aS (i+1,o2) ⟨by simp only[aBV];omega,ho2⟩ qO qF ?_;simp only[hfs,aCB,aC5,aD5];exact dS (aA qS)
   |false =>
    rw[aBU (by rw[hne];simp)]at hfs;refine ar rfl qI<|aS (i+1,ov) ⟨by simp only[aBV];omega,hov⟩ qO qF ?_;simp only[hfs];exact dS (aA qS)
  ·have hiI:i=Is.length:=qN;subst hiI;rw[aCG];exact fin ⟨rfl,ov,_,true,rfl,hRes,rfl⟩ (aC (cD hov) (dS (dS (aA qS))))
theorem tay_id{u:aAd}(h:Nm u):tay ((2^0:Nat):Int) ((0:Nat):Int) u=u:=by refine Nm.ext (yE _ _ h) h fun x=>?_;have h1:=tI ((2^0:Nat):Int) ((0:Nat):Int) x u;have h2:=sO 1 x u;simp only[aDR,aGa]at h2;have e1:((2^0:Nat):Int)=1:=rfl;have e2:((0:Nat):Int)+x=x:=qN;rw[e1,e2,aDR,h2]at h1;exact h1
theorem tH(s:aAd)(a m x:Int):pev (pstr m (kK a s)) x=pev s (a+m*x):=by rw[ev_pstr,iY,aFl]
theorem within_ne{s:aAd}{a m:Int}(hm:m≠0)(h0:0<dg s):pstr m (kK a s)≠[]:=fun e=>by
 have h1:∀x,pev s (a+m*x)=0:=fun x=>by rw[←tH,e];rfl
 have h2:=oV hm (F:=kK a s) (G:=[]) (fun x=>by rw[iY,aFl,h1];rfl);have h3:=(cR (l:=s)).2 fun x=>by have:=h2 (x-a);rw[iY,show x-a+a=x by omega]at this;rw[this];rfl
 omega
theorem within_ok{s:aAd}{L:Nat→aAd}{r:Nat}{a:Int}{m:Nat}(hc:Chain L r)(he:L 0=s)(hm:1≤m)(hz:szR 208 s)(hl:s.length≤9)(h0:0<dg s)(ha:sz a 2)(hmz:sz (m:Int) 2)(ht:rc s a (a+m)≤1000):szR 300 (pstr m (kK a s))∧(pstr m (kK a s)).length≤9∧∃(J:Nat) (t:Nat),CC (pstr m (kK a s)) m 0 0 t∧rc s a (a+m)=t∧UOk (pstr m (kK a s)) m J (301+J+2)∧J≤10000000000:=by have h1:=(Lk.told hz hl).shi (a:=a) (j:=2) ha qE;have h2:=h1.str (a:=(m:Int)) (j:=2) hmz;have hs:szR 300 (pstr m (kK a s)):=h2.sz.mono qE;refine⟨hs,h2.ll,?_⟩;obtain⟨J,hJ1,hJ2⟩:∃J,gbt 17 (64*301+15)+64*301+35≤J∧J≤10000000000:=⟨_,aBY _,qE⟩;obtain⟨t,k1,k2,k3⟩:=uok (u:=pstr m (kK a s)) (k:=301) hc he hm (fun x=>tH s a m x) (pstr_nm _ _) (within_ne qN h0) h2.ll (hs.mono qE) (hs.pder (by have:=h2.ll;omega)) ht hJ1;exact⟨J,t,k1,k2,k3,hJ2⟩
theorem rShr01_one(v:Value)(a:aAe)(ha:Lim a)(la:a.length≤137438953472):aAb 188 [v,.int .i64 1] [(v,U a)] (aW (U (bX (nv a/2)))):=by
 have h1:=lE ha;have dA:=eM (nv a);have eA:=eK (nv a);have hdm:=fD v a ha qN;have hnil:jH (nv a)=[]↔nv a=0:=aA2;generalize hX:jH (nv a)=x at *;generalize hM:nv a=M at *;refine mV Tryz.func188 ?_;refine cH (wE 1) ?_;rw[show far 1=1 by decide];refine cG hdm fun vx=>gQ qN qE ⟨qN,qN⟩<|aT (v:=vx) qM fun _=>aE _ rfl (fun h0=>?_) (fun h0=>?_)
 ·have hx0:M=0:=hnil.1 (aCF qN);subst hx0;refine fin ⟨rfl,rfl⟩ ?_;rw[show 0/2=0 from rfl,cK];exact a0 (c8 1 _) (aH _ _)
 refine empty_U fun v0 hv0=>gQ qN qE ⟨qN,qN⟩<|oB (v:=vx) (kl:=.i64) (kh:=.i64) qM 0 x.length _ _ (.inr rfl) (.inl ⟨rfl,rfl⟩) (aB3 _) (aBY _) fun u=>gT (m:=x) 0 rfl hv0 (Knw.cast (bA (v:=u) qM) ?_) (by simp;omega) (by simp;omega) fun vq hq=>?_
 ·simp only[aEA,aDI];rfl
 rw[aDL];refine i7 qN qE<|eI ⟨_,Tryz.underlying3⟩ Tryz.underlying162 (1%32) (cU ⟨qN,qN⟩)<|oI 1 1 rfl qN qN<|len_U 0 rfl hq fun _=>ar rfl qI<|aO (X:=Nat×aAe×Nat) (fun z=>([(5,vq),(6,.int .u64 2),(7,.int .u64 (z.2.2:Nat)),(8,.int .i64 ((z.1:Int)-1))],[kC vq z.2.1],[]))
  (fun z=>z.1≤x.length∧z.2.1.length=x.length∧Dig z.2.1∧z.2.2<2∧(∀j,j<z.1→z.2.1.getD j 0=x.getD j 0)∧dv (x.drop z.1)=dv (z.2.1.drop z.1)*2+z.2.2) (fun z=>z.1) rfl ?_ ?_
 ·exact aS (x.length,x,0) ⟨aBY _,rfl,dA,qO,fun _ _=>rfl,by simp[dv]⟩ aB0 qF (aA qS)
 rintro⟨k,l,left⟩ ⟨g1,g2,g3,g4,g6,g5⟩;simp only at g1 g2 g3 g4 g5 g6⊢;refine aE _ rfl (fun hk=>?_) (fun hk=>?_)
 ·obtain⟨i,rfl⟩:∃i,k=i+1:=⟨k-1,qN⟩;have hi:i<x.length:=qN;have hxi:=dA.get i;have hs1:=aDl (left*4294967296+x.getD i 0) (show 0<2 by omega);have hs2:=aDt (left*4294967296+x.getD i 0) 2;have hdl:(left*4294967296+x.getD i 0)/2<4294967296:=qN;have hdr:=dv_drop hi;have hds:=s9 (l:=l) (i:=i) (x:=(left*4294967296+x.getD i 0)/2) qN;have hli:=g6 i qN;refine dF rfl ((left*4294967296:Nat):Int) (by rw[show((left:Int)*4294967296)=((left*4294967296:Nat):Int)by omega];exact cU ⟨aCI _,qN⟩)<|eN 0 rfl hq i qN qN<|lM 0 rfl i qN ?_;rw[hli];refine dF rfl ((left*4294967296+x.getD i 0:Nat):Int) (by rw[←aDM];exact cU ⟨aCI _,qN⟩) ?_;have hst:=aA0 (x:=x.getD i 0) (q:=(left*4294967296+x.getD i 0)/2) (r:=(left*4294967296+x.getD i 0)%2) g5 (by rw[aCc _ 2];omega);have hgs:∀j q,j<i→(l.set i q).getD j 0=x.getD j 0:=fun j q hj=>by rw[←g6 j qN];simp[gE,aED,show ¬i=j by omega]
  generalize left*4294967296+x.getD i 0=s at *;refine gQ qN qN ⟨qN,qN⟩<|eN 0 rfl hq i qN qN<|eX 0 rfl (s/2) qN qN<|i7 qN qN<|ar rfl qI<|aS (i,l.set i (s/2),s%2) ⟨qO,by simp[g2],g3.set _ hdl,hs1,fun j hj=>hgs j _ hj,?_⟩ qO ⟨rfl,rfl,yB qO,mA qO,aB0⟩ (aA qS);simp only;rw[hdr,hds,hst]
 ·have hk0:k=0:=qN;subst hk0;rw[aDp,aDp,eA]at g5;have e1:M/2=dv l:=qN;refine cZ (iE vq l g3 qN) (Seals.U 0 rfl hq) qS ?_;rintro r1 _ _ ⟨rfl,rfl⟩;refine fin ⟨rfl,rfl⟩ ?_;rw[e1];exact aA qS
theorem rShr_one(v:Value)(x:Int)(a:Nat)(hx:sz x a)(ha:a≤1073741824):aAb 171 [v,.int .i64 1] [(v,zd x)] (aW (zd (x/2))):=by
 have hl:(bX x.natAbs).length≤a:=hx.len;have hn:∀y,aAb 84 [y] [(y,zd x)] (aW (zd x)):=fun y=>by have:=gP y (decide (x<0)) (bX x.natAbs) (aV _) qN;rw[i8]at this;exact this
 have h1:=fun y=>rShr01_one y (bX x.natAbs) (aV _) qN;rw[cE]at h1;have hA:=fun y1 y2=>rAdd_meets y1 y2 (bX x.natAbs) (bX 1) (aV _) (aV _) qN (aBW (bW (n:=1) (k:=1) qE) qE);simp only[cE]at hA;have hl2:(bX (x.natAbs+1)).length≤a+1:=by
  have h2:sz (x.natAbs+1:Nat) (a+1):=by unfold sz at *;have:18446744073709551616^a<18446744073709551616^(a+1):=aEB qE qN;omega
  exact h2.len
 have h2:=fun y=>rShr01_one y (bX (x.natAbs+1)) (aV _) qN;rw[cE]at h2;have hm1:=fun y=>gY y false (bX (x.natAbs/2)) (aV _) (aBW (bW (aC3 (aEf _ _) hx)) qN);have hm2:=fun y=>gY y true (bX ((x.natAbs+1)/2)) (aV _) (aBW (bW (aC3 (show(x.natAbs+1)/2≤x.natAbs+1 by omega) (show x.natAbs+1<18446744073709551616^(a+1)by
  have:18446744073709551616^a<18446744073709551616^(a+1):=aEB qE qN;unfold sz at hx;omega))) qN)
 have e1:iv false (bX (x.natAbs/2))=(x.natAbs/2:Nat):=by unfold iv;rw[cE];simp
 have e2:iv true (bX ((x.natAbs+1)/2)) = -((x.natAbs+1)/2:Nat):=by unfold iv;rw[cE];simp
 rw[e1]at hm1;rw[e2]at hm2;have hs:=fun y=>wF y [1] 1 (by intro z hz;rw[aCh.1 hz];decide) qE;have aAs:nv [1]*2^far 1=2:=qE;rw[aAs]at hs;have aBq:=fun y1 y2=>vG y1 y2 (bX 2) [1] (aV _) (by intro z hz;rw[aCh.1 hz];decide) (aBW (bW (n:=2) (k:=1) qE) qE) qE;rw[cE,show nv [1]=1 by decide]at aBq;refine mV Tryz.func171 ?_;refine bD (aB (d:=zd x) qM) fun b hb=>aG (d:=I false []) fun o ho=>aD (d:=zd x) 1 rfl hb rfl (aM _ _) fun y1=>cG (hn y1) fun y2=>aF (d:=zd x) 1 rfl hb rfl qK (aB (v:=y2) qM)<|aQ 1 rfl hb<|aI (u:=.bool (decide (x<0))) 1 rfl (bC (aL _)) ?_
 by_cases hx0:x<0
 ·rw[aCn hx0];refine m7 1 rfl fun z1=>cG (hs z1) fun z2=>m7 1 rfl fun z3=>cF (aBq z2 z3) ?_;rintro _ _ _ ⟨rfl,h|⟨_,z4,rfl,rfl⟩⟩
  ·omega
  refine aQ 1 rfl hb<|aP (d:=U (bX x.natAbs)) 1 rfl (aU (aL _)) (c9 _) fun z5=>cG (hA z5 z4) fun z6=>cG (h2 z6) fun z7=>cG (hm2 z7) fun z8=>?_;have e3 : -(((x.natAbs+1)/2:Nat):Int)=x/2:=qN;rw[e3];refine aF (d:=zd (x/2)) 0 rfl ho rfl qK (aB (v:=z8) qM)<|aD (d:=zd (x/2)) 0 rfl ho rfl (aM _ _) fun r=>aAi (dS (dS (aA (fs':=[(r,zd (x/2))]) qS)))
 ·rw[aCg hx0];refine aQ 1 rfl hb<|aP (d:=U (bX x.natAbs)) 1 rfl (aU (aL _)) (c9 _) fun z5=>cG (h1 z5) fun z6=>cG (hm1 z6) fun z8=>?_;have e3:((x.natAbs/2:Nat):Int)=x/2:=qN;rw[e3];refine aF (d:=zd (x/2)) 0 rfl ho rfl qK (aB (v:=z8) qM)<|aD (d:=zd (x/2)) 0 rfl ho rfl (aM _ _) fun r=>aAi (dS (dS (aA (fs':=[(r,zd (x/2))]) qS)))
structure WOk(s:aAd)(ls:List aAd)(lo hi:Int)(U:aAd)(t:Nat)(J:Nat):Prop where
 zU:szR 300 U
 lU:U.length≤9
 nU:Nm U
 eU:U≠[]
 cnt:cnt ls lo hi=t+(if pev s lo=0 then 1 else 0)-(if pev s hi=0 then 1 else 0)
 u0:U.getD 0 0=pev s lo
 u1:pev U 1=pev s hi
 cc:∃m,1≤m∧CC U m 0 0 t∧UOk U m J (301+J+2)
 jJ:J≤10000000000
theorem wok{s:aAd}{ls:List aAd}{lo hi:Int}(hl:ChL ls)(h0:ls.getD 0 []=s)(hln:ls.length≤100)(zs:szR 208 s)(l6:s.length≤9)(hsd:0<dg s)(h:lo<hi)(zlo : -73786976294838206464≤lo)(zhi:hi≤73786976294838206464):∃t J,WOk s ls lo hi (pstr (hi-lo) (kK lo s)) t J:=by
 obtain⟨m,hm⟩:∃m:Nat,hi-lo=m:=⟨(hi-lo).toNat,qN⟩;have hhi:hi=lo+m:=qN;have hmz:sz (m:Int) 2:=by unfold sz;have e:(18446744073709551616:Nat)^2=18446744073709551616*18446744073709551616:=qE;rw[e];omega
 have zlo2:sz lo 2:=by unfold sz;have e:(18446744073709551616:Nat)^2=18446744073709551616*18446744073709551616:=qE;rw[e];omega
 have hrc:=rc_eq hl.ch h0 (aCl h);have h1:=sV_le (fun i=>ls.getD i []) (ls.length-1) lo;obtain⟨z75,l6',J,t,hcc,hrt,hok,hJ⟩:=within_ok (a:=lo) (m:=m) hl.ch h0 qN zs l6 hsd zlo2 hmz (by rw[←hhi,hrc];omega);refine⟨t,J,?_⟩;rw[hm];refine⟨z75,l6',pstr_nm _ _,within_ne qN hsd,?_,?_,?_,⟨m,qN,hcc,hok⟩,hJ⟩
 ·rw[cnt_rc hl (aCl h),h0,hhi,hrt]
 ·rw[←ev_at0,tH];simp
 ·rw[tH,hhi];simp
theorem WOk.none{s U:aAd}{ls:List aAd}{lo hi:Int}{t J:Nat}(h:WOk s ls lo hi U t J)(hv:vs 0 (kK 1 U.reverse)=0)(hs:pev s lo≠0):Go.Proofs.YtjebljkoiaojaaaGreat.cnt ls lo hi=0:=by
 obtain⟨m,hm,hcc,_⟩:=h.cc;have hT:∀x,pev (kK 1 U.reverse) x=pev (tay ((2^0:Nat):Int) ((0:Nat):Int) U).reverse (x+1):=fun x=>by rw[tay_id h.nU];exact iY _ _ _
 have h2:=CC.desc (j:=0) (i:=((0:Nat):Int)) hm h.nU h.eU hT qN;rw[tay_id h.nU,hv,h.u1]at h2;have h3:=hcc.unique h2;rw[h.cnt,aBU hs,h3]
 split<;>simp
theorem WOk.unit{s U:aAd}{ls:List aAd}{lo hi:Int}{t J:Nat}(h:WOk s ls lo hi U t J)(v:Value):aAb 170 [v] [(v,vd U)] (fun r os fs=>os=[]∧fs=[]∧∃c:Nat,r=.int .i64 (c:Int)∧c≤1000∧Go.Proofs.YtjebljkoiaojaaaGreat.cnt ls lo hi=c+if pev s lo=0 then 1 else 0):=by
 obtain⟨m,hm,hcc,hok⟩:=h.cc;have hJ:=h.jJ;have:=unit_meets hok qN qN J 0 0 qN qE v;rw[tay_id h.nU,h.u1]at this;refine this.mono fun r os fs ⟨h1,h2,c,h3,h4,h5⟩=>⟨h1,h2,c,h3,h4,?_⟩;have h6:=hcc.unique h5;rw[h.cnt,h6]
 split<;>simp<;>omega
structure Wk(ls:List aAd)(LO b:Int)(O:aAd):Prop where
 fl:Flr ls LO b O
 le:LO≤b
 few:(O.length:Int)≤Go.Proofs.YtjebljkoiaojaaaGreat.cnt ls LO b
theorem Wk.skip{ls:List aAd}(hl:ChL ls){LO b c:Int}{O:aAd}(h:Wk ls LO b O)(hbc:b≤c)(h0:cnt ls b c=0):Wk ls LO c O :=⟨h.fl.skip hl hbc h0,by have:=h.le;omega,by have:=jY ls LO b c;have:=h.few;omega⟩
theorem cnt_self(ls:List aAd)(x:Int):cnt ls x x=0:=by have:=jY ls x x x;omega
theorem Wk.one{ls:List aAd}(hl:ChL ls){LO b:Int}{O:aAd}(h:Wk ls LO b O)(h1:0<cnt ls b (b+1)):Wk ls LO (b+1) (O++[b]) :=⟨h.fl.one hl h.le (aDN _) (aDN _) h1 (cnt_self ls b) (cnt_self ls (b+1)),by have:=h.le;omega,by
  have:=jY ls LO b (b+1);have:=h.few;rw[aCt,List.length_singleton];omega⟩
theorem Wk.short{ls:List aAd}(hln:ls.length≤100){LO b:Int}{O:aAd}(h:Wk ls LO b O):O.length≤200:=by
 have h1:=h.few;have h2:=tns_le ls LO;unfold cnt xJ at h1;have h3:(if pev (ls.getD 0 []) LO=0 then(1:Int)else 0)≤1:=by split<;>decide
 have h4:(0:Int)≤if pev (ls.getD 0 []) b=0 then 1 else 0:=by split<;>decide
 omega
theorem set_nth:∀ {os:List Own} {pos:Nat} {o:Own},bJ os pos=some o→setOwn os pos o=os
 |[],pos,o,h=>by simp[bJ]at h
 |a::os,0,o,h=>by simp[bJ]at h;simp[setOwn,h]
 |a::os,pos+1,o,h=>by have:=set_nth (os:=os) (pos:=pos) (o:=o) h;simp[setOwn,this]
set_option maxHeartbeats 8000000 in
theorem wkc_all{s:aAd}{ls:List aAd}(hl:ChL ls)(h0:ls.getD 0 []=s)(hln:ls.length≤100)(zs:szR 208 s)(l6:s.length≤9)(hsd:0<dg s)(LO:Int)(sv:Value):∀(d:Nat) {xl:Bool×aAe} {lo hi:Int} {pos:Nat} {lv hv ov:Value} {O:aAd} {os:List Own} {fs:List bO} {K:cV},jv xl=lo→Lim xl.2→xl.2.length≤2→hi-lo≤d→lo<hi → -73786976294838206464≤lo→hi≤73786976294838206464 → bJ os pos=some (fV 2 J z0 ov (O.map cn))→isSl ov→Wk ls LO lo O → (∀r O',isSl r→Wk ls LO hi O'→K r (setOwn os pos (fV 2 J z0 r (O'.map cn))) ((sv,vd s)::(lv,J xl)::(hv,zd hi)::fs)) → CallK Tryz.prog false (.func (.func 153) #[] #[]) [sv,lv,hv,ov] os ((sv,vd s)::(lv,J xl)::(hv,zd hi)::fs) K:=by
 intro d
 induction d with
 |zero=>intro xl lo hi;intros;omega
 |succ d ih =>
  intro xl lo hi pos lv hv ov O os fs K hxe hxl hx1 hd hlt zlo zhi hon hs hF kk;have hOl:=hF.short hln;have kk0:Wk ls LO hi O→K ov os ((sv,vd s)::(lv,J xl)::(hv,zd hi)::fs):=fun h=>by have:=kk ov O hs h;rwa [set_nth hon]at this
  obtain⟨t,J',W⟩:=wok hl h0 hln zs l6 hsd hlt zlo zhi;have z2:∀z:Int,-73786976294838206464≤z→z≤73786976294838206465→sz z 2:=fun z h1 h2=>by unfold sz;have e:(18446744073709551616:Nat)^2=18446744073709551616*18446744073709551616:=qE;rw[e];omega
  have zhi2:sz hi 2:=z2 hi qN qN;have zlo2:sz lo 2:=z2 lo zlo qN;have zlo1:sz (lo+1) 2:=z2 (lo+1) qN qN;have zsum:sz (lo+hi) 3:=by have:=jM zlo2 zhi2.neg;rwa [aFt]at this
  have aAp:=fun d1 d2=>rAddJZ d1 d2 xl 1 1 hxl qN (sm5 1 qE) qE;rw[hxe]at aAp;have aBj:=fun d1 d2=>rAddJZ d1 d2 xl hi 2 hxl qN zhi2 qE;rw[hxe]at aBj;have hshr:=fun y=>rShr_one y (lo+hi) 3 zsum qE;have aBQ:∀y,aAb 84 [y] [(y,J xl)] (aW (zd lo)):=fun y=>by have:aAb 84 [y] [(y,J xl)] (aW (zd (jv xl))):=gP y xl.1 xl.2 hxl qN;rw[hxe]at this;exact this
  have aAj:lo+1<hi→lo<(lo+hi)/2∧(lo+hi)/2<hi∧sz ((lo+hi)/2) 2:=fun h=>⟨qN,qN,z2 _ qN qN⟩;have aAr:pev s lo=0→0<cnt ls lo (lo+1):=fun h=>by have:=hl.nn (show lo<lo+1 by omega);rw[h0,aBX h]at this;omega
  have hwi:∀y1 y2,aAb 168 [sv,y1,y2] [(sv,vd s),(y1,J xl),(y2,zd hi)] (aW (vd (pstr (hi-lo) (kK lo s)))):=fun y1 y2=>by have:=within_meets sv y1 y2 (s.map cn) xl (cn hi) 208 2 zs.fit qE hxl qN (aV _) zhi2.len qE (by rw[aBV];omega) qE;rw[dX,dJ,hxe]at this;exact this
  generalize pstr (hi-lo) (kK lo s)=U at *;generalize (lo+hi)/2=mid at *;have hUl:=aCE.2 W.eU;have hU6:=W.lU;have hat:∀y,aAb 109 [y,.int .i64 ((0:Nat):Int)] [(y,vd U)] (aW (zd (pev s lo))):=fun y=>by have:=rAtN y (U.map cn) (W.zU.fit.mono qE) 0;rw[dX,W.u0]at this;exact this
  have hsg:=fun y=>rSignZ y (pev s lo) 300 (by rw[←W.u0];exact W.zU.get 0) qE;have hmay:=fun y=>zP y U 300 W.zU qE qE W.nU hUl qN;have hnone:=W.none;have hun:=W.unit;generalize vs 0 (kK 1 U.reverse)=n at *;refine fJ Tryz.func153 qK rfl qK (aCT rfl)<|bD (aB (d:=J xl) qM) fun lb hlb=>bD (aB (d:=zd hi) qM) fun ub hub=>aD (d:=J xl) 1 rfl hlb rfl (aR _) fun a1=>aD (d:=zd hi) 0 rfl hub rfl (aM _ _) fun a2=>cG (hwi a1 a2) fun uv=>cG (hat uv) fun a3=>cH (hsg a3)<|aE _ rfl (fun hz=>?_) (fun hz=>?_)
  ·replace hz:=uU.1 hz
   refine cH (hmay uv)<|aE _ rfl (fun hm=>?_) (fun hm=>?_)
   ·
    refine cG (dZ 1 qE qE) fun o1=>aG (d:=I false []) fun nb hnb=>aF (d:=zd 1) 0 rfl hnb rfl qK (aB (v:=o1) qM)<|aY [0,1,3,2,4,5] [0,1,2,3,4,5] qK qK<|aD (d:=J xl) 2 rfl hlb rfl (aR _) fun d1=>aD (d:=zd 1) 0 rfl hnb rfl (aM _ _) fun d2=>aD (d:=zd hi) 1 rfl hub rfl (aM _ _) fun d3=>cG (aAp d1 d2) fun d4=>cH (rCmpZ6 d4 d3 (lo+1) hi 2 zlo1 zhi2 qE)<|aE _ rfl (fun aAs=>?_) (fun aAs=>?_)
    ·have he:hi=lo+1:=by have:=uU.1 aAs;omega
     have hcp:=aAr hz;refine aD (d:=J xl) 2 rfl hlb rfl (aR _) fun c1=>cG (aBQ c1) fun c2=>fY (size:=2) J z0 (cn lo) qE (aB (v:=c2) (d:=zd lo) qM) rfl fun c3=>cW (pos+3) hon hs (bA (v:=c3) qM) (by simp;omega) (by simp;omega) fun w hw=>?_;rw[nJ cn];exact fin (kk w (O++[lo]) hw (by rw[he];exact hF.one hl hcp)) (dS (dS (dS (aA qD))))
    ·
     have he:lo+1<hi:=by
      rcases aGh (show lo+1≤hi by omega)with g|g
      ·exact g
      ·exact absurd (uU.2 (show lo+1-hi=0 by omega)) aAs
     refine aD (d:=J xl) 2 rfl hlb rfl (aR _) fun m1=>aD (d:=zd hi) 1 rfl hub rfl (aM _ _) fun m2=>cG (aBj m1 m2) fun m3=>cG (hshr m3) fun m4=>aG (d:=I false []) fun mb hmb=>aF (d:=zd mid) 0 rfl hmb rfl qK (aB (v:=m4) qM)<|eH [0,1,2,3,4,5,6,7,8,9] qK<|a9 1 7 qK qK qK ?_ ?_
     ·refine a9 2 7 qK qK qK ?_ ?_
      ·refine cL [] [] [] [7,8] [0,1,2,3,4,5,6,7,8,9] qK qK qK<|aD (d:=zd mid) 0 rfl hmb rfl (aM _ _) fun e1=>aD (d:=zd hi) 2 rfl hub rfl (aM _ _) fun e2=>aD (d:=J xl) 3 rfl hlb rfl (aR _) fun e3=>aD (d:=zd mid) 0 rfl hmb rfl (aM _ _) fun e4=>dE (aA (fs':=(sv,vd s)::(e3,J xl)::(e4,zd mid)::_) (bK qM (bK qM (bK qM (fun _ h=>h)))))<|ih (xl:=xl) (lo:=lo) (hi:=mid) (pos:=pos+4) hxe hxl hx1 qN (aAj he).1 zlo (by have:=aAj he;omega) ?_ hs hF fun r1 O1 hr1 hF1=>?_
       ·exact hon
       refine dE (aA (fs':=(sv,vd s)::(e1,zd mid)::(e2,zd hi)::_) (bK qM (bK qM (bK qM (fun _ h=>h)))))<|ih (xl:=cn mid) (lo:=mid) (hi:=hi) (pos:=pos+4) (dJ _) (aV _) (aAj he).2.2.len qN (aAj he).2.1 (by have:=aAj he;omega) zhi ?_ hr1 hF1 fun r2 O2 hr2 hF2=>?_
       ·exact gM (o:=fV 2 J z0 ov (O.map cn)) hon
       rw[set_set];exact fin (kk r2 O2 hr2 hF2) (dS (dS (dS (dS (aA qD)))))
      ·refine cL [] [] [] [7,8] [0,1,3,4,5,6,7,2,8,9] qK qK qK<|aD (d:=zd mid) 0 rfl hmb rfl (aM _ _) fun e1=>aD (d:=J xl) 3 rfl hlb rfl (aR _) fun e3=>aD (d:=zd mid) 0 rfl hmb rfl (aM _ _) fun e4=>dE (aA (fs':=(sv,vd s)::(e3,J xl)::(e4,zd mid)::_) (bK qM (bK qM (bK qM (fun _ h=>h)))))<|ih (xl:=xl) (lo:=lo) (hi:=mid) (pos:=pos+4) hxe hxl hx1 qN (aAj he).1 zlo (by have:=aAj he;omega) ?_ hs hF fun r1 O1 hr1 hF1=>?_
       ·exact hon
       refine aD (d:=zd hi) 2 rfl hub rfl (aM _ _) fun e2=>dE (aA (fs':=(sv,vd s)::(e1,zd mid)::(e2,zd hi)::_) (bK qM (bK qM (bK qM (fun _ h=>h)))))<|ih (xl:=cn mid) (lo:=mid) (hi:=hi) (pos:=pos+4) (dJ _) (aV _) (aAj he).2.2.len qN (aAj he).2.1 (by have:=aAj he;omega) zhi ?_ hr1 hF1 fun r2 O2 hr2 hF2=>?_
       ·exact gM (o:=fV 2 J z0 ov (O.map cn)) hon
       rw[set_set];exact fin (kk r2 O2 hr2 hF2) (dS (dS (dS (dS (aA qD)))))
     ·refine a9 2 7 qK qK qK ?_ ?_
      ·refine cL [] [] [] [7,8] [0,2,3,4,5,6,7,1,8,9] qK qK qK<|aD (d:=zd hi) 2 rfl hub rfl (aM _ _) fun e2=>aD (d:=J xl) 3 rfl hlb rfl (aR _) fun e3=>aD (d:=zd mid) 0 rfl hmb rfl (aM _ _) fun e4=>dE (aA (fs':=(sv,vd s)::(e3,J xl)::(e4,zd mid)::_) (bK qM (bK qM (bK qM (fun _ h=>h)))))<|ih (xl:=xl) (lo:=lo) (hi:=mid) (pos:=pos+4) hxe hxl hx1 qN (aAj he).1 zlo (by have:=aAj he;omega) ?_ hs hF fun r1 O1 hr1 hF1=>?_
       ·exact hon
       refine aD (d:=zd mid) 0 rfl hmb rfl (aM _ _) fun e1=>dE (aA (fs':=(sv,vd s)::(e1,zd mid)::(e2,zd hi)::_) (bK qM (bK qM (bK qM (fun _ h=>h)))))<|ih (xl:=cn mid) (lo:=mid) (hi:=hi) (pos:=pos+4) (dJ _) (aV _) (aAj he).2.2.len qN (aAj he).2.1 (by have:=aAj he;omega) zhi ?_ hr1 hF1 fun r2 O2 hr2 hF2=>?_
       ·exact gM (o:=fV 2 J z0 ov (O.map cn)) hon
       rw[set_set];exact fin (kk r2 O2 hr2 hF2) (dS (dS (dS (dS (aA qD)))))
      ·refine cL [] [] [] [7,8] [0,3,4,5,6,7,1,2,8,9] qK qK qK<|aD (d:=J xl) 3 rfl hlb rfl (aR _) fun e3=>aD (d:=zd mid) 0 rfl hmb rfl (aM _ _) fun e4=>dE (aA (fs':=(sv,vd s)::(e3,J xl)::(e4,zd mid)::_) (bK qM (bK qM (bK qM (fun _ h=>h)))))<|ih (xl:=xl) (lo:=lo) (hi:=mid) (pos:=pos+4) hxe hxl hx1 qN (aAj he).1 zlo (by have:=aAj he;omega) ?_ hs hF fun r1 O1 hr1 hF1=>?_
       ·exact hon
       refine aD (d:=zd mid) 0 rfl hmb rfl (aM _ _) fun e1=>aD (d:=zd hi) 2 rfl hub rfl (aM _ _) fun e2=>dE (aA (fs':=(sv,vd s)::(e1,zd mid)::(e2,zd hi)::_) (bK qM (bK qM (bK qM (fun _ h=>h)))))<|ih (xl:=cn mid) (lo:=mid) (hi:=hi) (pos:=pos+4) (dJ _) (aV _) (aAj he).2.2.len qN (aAj he).2.1 (by have:=aAj he;omega) zhi ?_ hr1 hF1 fun r2 O2 hr2 hF2=>?_
       ·exact gM (o:=fV 2 J z0 ov (O.map cn)) hon
       rw[set_set];exact fin (kk r2 O2 hr2 hF2) (dS (dS (dS (dS (aA qD)))))
   ·
    refine cG (dZ 1 qE qE) fun o1=>aG (d:=I false []) fun nb hnb=>aF (d:=zd 1) 0 rfl hnb rfl qK (aB (v:=o1) qM)<|aY [0,1,3,2,4,5] [0,1,2,3,4,5] qK qK<|aD (d:=J xl) 2 rfl hlb rfl (aR _) fun d1=>aD (d:=zd 1) 0 rfl hnb rfl (aM _ _) fun d2=>aD (d:=zd hi) 1 rfl hub rfl (aM _ _) fun d3=>cG (aAp d1 d2) fun d4=>cH (rCmpZ6 d4 d3 (lo+1) hi 2 zlo1 zhi2 qE)<|aE _ rfl (fun aAs=>?_) (fun aAs=>?_)
    ·have he:hi=lo+1:=by have:=uU.1 aAs;omega
     have hcp:=aAr hz;refine aD (d:=J xl) 2 rfl hlb rfl (aR _) fun c1=>cG (aBQ c1) fun c2=>fY (size:=2) J z0 (cn lo) qE (aB (v:=c2) (d:=zd lo) qM) rfl fun c3=>cW (pos+3) hon hs (bA (v:=c3) qM) (by simp;omega) (by simp;omega) fun w hw=>?_;rw[nJ cn];exact fin (kk w (O++[lo]) hw (by rw[he];exact hF.one hl hcp)) (dS (dS (dS (aA qD))))
    ·
     have he:lo+1<hi:=by
      rcases aGh (show lo+1≤hi by omega)with g|g
      ·exact g
      ·exact absurd (uU.2 (show lo+1-hi=0 by omega)) aAs
     refine aD (d:=J xl) 2 rfl hlb rfl (aR _) fun m1=>aD (d:=zd hi) 1 rfl hub rfl (aM _ _) fun m2=>cG (aBj m1 m2) fun m3=>cG (hshr m3) fun m4=>aG (d:=I false []) fun mb hmb=>aF (d:=zd mid) 0 rfl hmb rfl qK (aB (v:=m4) qM)<|eH [0,1,2,3,4,5,6,7,8,9] qK<|a9 1 7 qK qK qK ?_ ?_
     ·refine a9 2 7 qK qK qK ?_ ?_
      ·refine cL [] [] [] [7,8] [0,1,2,3,4,5,6,7,8,9] qK qK qK<|aD (d:=zd mid) 0 rfl hmb rfl (aM _ _) fun e1=>aD (d:=zd hi) 2 rfl hub rfl (aM _ _) fun e2=>aD (d:=J xl) 3 rfl hlb rfl (aR _) fun e3=>aD (d:=zd mid) 0 rfl hmb rfl (aM _ _) fun e4=>dE (aA (fs':=(sv,vd s)::(e3,J xl)::(e4,zd mid)::_) (bK qM (bK qM (bK qM (fun _ h=>h)))))<|ih (xl:=xl) (lo:=lo) (hi:=mid) (pos:=pos+4) hxe hxl hx1 qN (aAj he).1 zlo (by have:=aAj he;omega) ?_ hs hF fun r1 O1 hr1 hF1=>?_
       ·exact hon
       refine dE (aA (fs':=(sv,vd s)::(e1,zd mid)::(e2,zd hi)::_) (bK qM (bK qM (bK qM (fun _ h=>h)))))<|ih (xl:=cn mid) (lo:=mid) (hi:=hi) (pos:=pos+4) (dJ _) (aV _) (aAj he).2.2.len qN (aAj he).2.1 (by have:=aAj he;omega) zhi ?_ hr1 hF1 fun r2 O2 hr2 hF2=>?_
       ·exact gM (o:=fV 2 J z0 ov (O.map cn)) hon
       rw[set_set];exact fin (kk r2 O2 hr2 hF2) (dS (dS (dS (dS (aA qD)))))
      ·refine cL [] [] [] [7,8] [0,1,3,4,5,6,7,2,8,9] qK qK qK<|aD (d:=zd mid) 0 rfl hmb rfl (aM _ _) fun e1=>aD (d:=J xl) 3 rfl hlb rfl (aR _) fun e3=>aD (d:=zd mid) 0 rfl hmb rfl (aM _ _) fun e4=>dE (aA (fs':=(sv,vd s)::(e3,J xl)::(e4,zd mid)::_) (bK qM (bK qM (bK qM (fun _ h=>h)))))<|ih (xl:=xl) (lo:=lo) (hi:=mid) (pos:=pos+4) hxe hxl hx1 qN (aAj he).1 zlo (by have:=aAj he;omega) ?_ hs hF fun r1 O1 hr1 hF1=>?_
       ·exact hon
       refine aD (d:=zd hi) 2 rfl hub rfl (aM _ _) fun e2=>dE (aA (fs':=(sv,vd s)::(e1,zd mid)::(e2,zd hi)::_) (bK qM (bK qM (bK qM (fun _ h=>h)))))<|ih (xl:=cn mid) (lo:=mid) (hi:=hi) (pos:=pos+4) (dJ _) (aV _) (aAj he).2.2.len qN (aAj he).2.1 (by have:=aAj he;omega) zhi ?_ hr1 hF1 fun r2 O2 hr2 hF2=>?_
       ·exact gM (o:=fV 2 J z0 ov (O.map cn)) hon
       rw[set_set];exact fin (kk r2 O2 hr2 hF2) (dS (dS (dS (dS (aA qD)))))
     ·refine a9 2 7 qK qK qK ?_ ?_
      ·refine cL [] [] [] [7,8] [0,2,3,4,5,6,7,1,8,9] qK qK qK<|aD (d:=zd hi) 2 rfl hub rfl (aM _ _) fun e2=>aD (d:=J xl) 3 rfl hlb rfl (aR _) fun e3=>aD (d:=zd mid) 0 rfl hmb rfl (aM _ _) fun e4=>dE (aA (fs':=(sv,vd s)::(e3,J xl)::(e4,zd mid)::_) (bK qM (bK qM (bK qM (fun _ h=>h)))))<|ih (xl:=xl) (lo:=lo) (hi:=mid) (pos:=pos+4) hxe hxl hx1 qN (aAj he).1 zlo (by have:=aAj he;omega) ?_ hs hF fun r1 O1 hr1 hF1=>?_
       ·exact hon
       refine aD (d:=zd mid) 0 rfl hmb rfl (aM _ _) fun e1=>dE (aA (fs':=(sv,vd s)::(e1,zd mid)::(e2,zd hi)::_) (bK qM (bK qM (bK qM (fun _ h=>h)))))<|ih (xl:=cn mid) (lo:=mid) (hi:=hi) (pos:=pos+4) (dJ _) (aV _) (aAj he).2.2.len qN (aAj he).2.1 (by have:=aAj he;omega) zhi ?_ hr1 hF1 fun r2 O2 hr2 hF2=>?_
       ·exact gM (o:=fV 2 J z0 ov (O.map cn)) hon
       rw[set_set];exact fin (kk r2 O2 hr2 hF2) (dS (dS (dS (dS (aA qD)))))
      ·refine cL [] [] [] [7,8] [0,3,4,5,6,7,1,2,8,9] qK qK qK<|aD (d:=J xl) 3 rfl hlb rfl (aR _) fun e3=>aD (d:=zd mid) 0 rfl hmb rfl (aM _ _) fun e4=>dE (aA (fs':=(sv,vd s)::(e3,J xl)::(e4,zd mid)::_) (bK qM (bK qM (bK qM (fun _ h=>h)))))<|ih (xl:=xl) (lo:=lo) (hi:=mid) (pos:=pos+4) hxe hxl hx1 qN (aAj he).1 zlo (by have:=aAj he;omega) ?_ hs hF fun r1 O1 hr1 hF1=>?_
       ·exact hon
       refine aD (d:=zd mid) 0 rfl hmb rfl (aM _ _) fun e1=>aD (d:=zd hi) 2 rfl hub rfl (aM _ _) fun e2=>dE (aA (fs':=(sv,vd s)::(e1,zd mid)::(e2,zd hi)::_) (bK qM (bK qM (bK qM (fun _ h=>h)))))<|ih (xl:=cn mid) (lo:=mid) (hi:=hi) (pos:=pos+4) (dJ _) (aV _) (aAj he).2.2.len qN (aAj he).2.1 (by have:=aAj he;omega) zhi ?_ hr1 hF1 fun r2 O2 hr2 hF2=>?_
       ·exact gM (o:=fV 2 J z0 ov (O.map cn)) hon
       rw[set_set];exact fin (kk r2 O2 hr2 hF2) (dS (dS (dS (dS (aA qD)))))
  ·replace hz:pev s lo≠0:=fun h=>hz (uU.2 h)
   refine cH (hmay uv)<|aE _ rfl (fun hm=>?_) (fun hm=>?_)
   ·exact fin (kk0 (hF.skip hl qN (hnone qN hz))) (dS (dS (aA qD)))
   ·
    refine cG (dZ 1 qE qE) fun o1=>aG (d:=I false []) fun nb hnb=>aF (d:=zd 1) 0 rfl hnb rfl qK (aB (v:=o1) qM)<|aY [0,1,3,2,4,5] [0,1,2,3,4,5] qK qK<|aD (d:=J xl) 2 rfl hlb rfl (aR _) fun d1=>aD (d:=zd 1) 0 rfl hnb rfl (aM _ _) fun d2=>aD (d:=zd hi) 1 rfl hub rfl (aM _ _) fun d3=>cG (aAp d1 d2) fun d4=>cH (rCmpZ6 d4 d3 (lo+1) hi 2 zlo1 zhi2 qE)<|aE _ rfl (fun aAs=>?_) (fun aAs=>?_)
    ·have he:hi=lo+1:=by have:=uU.1 aAs;omega
     refine cF (hun uv) ?_;rintro _ _ _ ⟨rfl,rfl,c,rfl,hc1,hc2⟩;rw[aBU hz]at hc2;refine aE _ rfl (fun hgt=>?_) (fun hgt=>?_)
     ·have hcp:0<cnt ls lo (lo+1):=by rw[←he,hc2];omega
      refine aD (d:=J xl) 2 rfl hlb rfl (aR _) fun c1=>cG (aBQ c1) fun c2=>fY (size:=2) J z0 (cn lo) qE (aB (v:=c2) (d:=zd lo) qM) rfl fun c3=>cW (pos+3) hon hs (bA (v:=c3) qM) (by simp;omega) (by simp;omega) fun w hw=>?_;rw[nJ cn];exact fin (kk w (O++[lo]) hw (by rw[he];exact hF.one hl hcp)) (dS (dS (dS (aA qD))))
     ·exact fin (kk0 (hF.skip hl qN (by rw[hc2];omega))) (dS (dS (dS (aA qD))))
    ·
     have he:lo+1<hi:=by
      rcases aGh (show lo+1≤hi by omega)with g|g
      ·exact g
      ·exact absurd (uU.2 (show lo+1-hi=0 by omega)) aAs
     refine aD (d:=J xl) 2 rfl hlb rfl (aR _) fun m1=>aD (d:=zd hi) 1 rfl hub rfl (aM _ _) fun m2=>cG (aBj m1 m2) fun m3=>cG (hshr m3) fun m4=>aG (d:=I false []) fun mb hmb=>aF (d:=zd mid) 0 rfl hmb rfl qK (aB (v:=m4) qM)<|eH [0,1,2,3,4,5,6,7,8,9] qK<|a9 1 7 qK qK qK ?_ ?_
     ·refine a9 2 7 qK qK qK ?_ ?_
      ·refine cL [] [] [] [7,8] [0,1,2,3,4,5,6,7,8,9] qK qK qK<|aD (d:=zd mid) 0 rfl hmb rfl (aM _ _) fun e1=>aD (d:=zd hi) 2 rfl hub rfl (aM _ _) fun e2=>aD (d:=J xl) 3 rfl hlb rfl (aR _) fun e3=>aD (d:=zd mid) 0 rfl hmb rfl (aM _ _) fun e4=>dE (aA (fs':=(sv,vd s)::(e3,J xl)::(e4,zd mid)::_) (bK qM (bK qM (bK qM (fun _ h=>h)))))<|ih (xl:=xl) (lo:=lo) (hi:=mid) (pos:=pos+4) hxe hxl hx1 qN (aAj he).1 zlo (by have:=aAj he;omega) ?_ hs hF fun r1 O1 hr1 hF1=>?_
       ·exact hon
       refine dE (aA (fs':=(sv,vd s)::(e1,zd mid)::(e2,zd hi)::_) (bK qM (bK qM (bK qM (fun _ h=>h)))))<|ih (xl:=cn mid) (lo:=mid) (hi:=hi) (pos:=pos+4) (dJ _) (aV _) (aAj he).2.2.len qN (aAj he).2.1 (by have:=aAj he;omega) zhi ?_ hr1 hF1 fun r2 O2 hr2 hF2=>?_
       ·exact gM (o:=fV 2 J z0 ov (O.map cn)) hon
       rw[set_set];exact fin (kk r2 O2 hr2 hF2) (dS (dS (dS (dS (aA qD)))))
      ·refine cL [] [] [] [7,8] [0,1,3,4,5,6,7,2,8,9] qK qK qK<|aD (d:=zd mid) 0 rfl hmb rfl (aM _ _) fun e1=>aD (d:=J xl) 3 rfl hlb rfl (aR _) fun e3=>aD (d:=zd mid) 0 rfl hmb rfl (aM _ _) fun e4=>dE (aA (fs':=(sv,vd s)::(e3,J xl)::(e4,zd mid)::_) (bK qM (bK qM (bK qM (fun _ h=>h)))))<|ih (xl:=xl) (lo:=lo) (hi:=mid) (pos:=pos+4) hxe hxl hx1 qN (aAj he).1 zlo (by have:=aAj he;omega) ?_ hs hF fun r1 O1 hr1 hF1=>?_
       ·exact hon
       refine aD (d:=zd hi) 2 rfl hub rfl (aM _ _) fun e2=>dE (aA (fs':=(sv,vd s)::(e1,zd mid)::(e2,zd hi)::_) (bK qM (bK qM (bK qM (fun _ h=>h)))))<|ih (xl:=cn mid) (lo:=mid) (hi:=hi) (pos:=pos+4) (dJ _) (aV _) (aAj he).2.2.len qN (aAj he).2.1 (by have:=aAj he;omega) zhi ?_ hr1 hF1 fun r2 O2 hr2 hF2=>?_
       ·exact gM (o:=fV 2 J z0 ov (O.map cn)) hon
       rw[set_set];exact fin (kk r2 O2 hr2 hF2) (dS (dS (dS (dS (aA qD)))))
     ·refine a9 2 7 qK qK qK ?_ ?_
      ·refine cL [] [] [] [7,8] [0,2,3,4,5,6,7,1,8,9] qK qK qK<|aD (d:=zd hi) 2 rfl hub rfl (aM _ _) fun e2=>aD (d:=J xl) 3 rfl hlb rfl (aR _) fun e3=>aD (d:=zd mid) 0 rfl hmb rfl (aM _ _) fun e4=>dE (aA (fs':=(sv,vd s)::(e3,J xl)::(e4,zd mid)::_) (bK qM (bK qM (bK qM (fun _ h=>h)))))<|ih (xl:=xl) (lo:=lo) (hi:=mid) (pos:=pos+4) hxe hxl hx1 qN (aAj he).1 zlo (by have:=aAj he;omega) ?_ hs hF fun r1 O1 hr1 hF1=>?_
       ·exact hon
       refine aD (d:=zd mid) 0 rfl hmb rfl (aM _ _) fun e1=>dE (aA (fs':=(sv,vd s)::(e1,zd mid)::(e2,zd hi)::_) (bK qM (bK qM (bK qM (fun _ h=>h)))))<|ih (xl:=cn mid) (lo:=mid) (hi:=hi) (pos:=pos+4) (dJ _) (aV _) (aAj he).2.2.len qN (aAj he).2.1 (by have:=aAj he;omega) zhi ?_ hr1 hF1 fun r2 O2 hr2 hF2=>?_
       ·exact gM (o:=fV 2 J z0 ov (O.map cn)) hon
       rw[set_set];exact fin (kk r2 O2 hr2 hF2) (dS (dS (dS (dS (aA qD)))))
      ·refine cL [] [] [] [7,8] [0,3,4,5,6,7,1,2,8,9] qK qK qK<|aD (d:=J xl) 3 rfl hlb rfl (aR _) fun e3=>aD (d:=zd mid) 0 rfl hmb rfl (aM _ _) fun e4=>dE (aA (fs':=(sv,vd s)::(e3,J xl)::(e4,zd mid)::_) (bK qM (bK qM (bK qM (fun _ h=>h)))))<|ih (xl:=xl) (lo:=lo) (hi:=mid) (pos:=pos+4) hxe hxl hx1 qN (aAj he).1 zlo (by have:=aAj he;omega) ?_ hs hF fun r1 O1 hr1 hF1=>?_
       ·exact hon
       refine aD (d:=zd mid) 0 rfl hmb rfl (aM _ _) fun e1=>aD (d:=zd hi) 2 rfl hub rfl (aM _ _) fun e2=>dE (aA (fs':=(sv,vd s)::(e1,zd mid)::(e2,zd hi)::_) (bK qM (bK qM (bK qM (fun _ h=>h)))))<|ih (xl:=cn mid) (lo:=mid) (hi:=hi) (pos:=pos+4) (dJ _) (aV _) (aAj he).2.2.len qN (aAj he).2.1 (by have:=aAj he;omega) zhi ?_ hr1 hF1 fun r2 O2 hr2 hF2=>?_
       ·exact gM (o:=fV 2 J z0 ov (O.map cn)) hon
       rw[set_set];exact fin (kk r2 O2 hr2 hF2) (dS (dS (dS (dS (aA qD)))))
theorem szR_get{l:aAd}{k:Nat}(h:∀i,sz (l.getD i 0) k):szR k l:=fun x hx=>by obtain⟨i,hi,rfl⟩:=aDi.1 hx;have:=h i;rw[gE,aB2 hi]at this;exact this
theorem sz_two{a b c d:Int}{e f:Nat}(ha:sz a e)(hb:sz b f)(hc:sz c f)(hd:sz d e):sz (a*b-c*d) (f+e+1):=by
 have h1:=ha.mul hb;have h2:=hc.mul hd;have h3:sz (a*b) (f+e):=by rw[aDm];exact h1
 exact jM h3 h2
theorem rest_steps{A B:aAd}{e:Nat}(sA:szR e A)(sB:szR e B)(h0:0<dg B):∀j,j≤dg A+1-dg B→∃T R,(∀x,ld B^j*pev A x=pev B x*pev T x+pev R x)∧dg R≤dg A-j∧szR (re e j) R
 |0,_=>⟨[],nrm A,fun x=>by rw[dH,aDn];simp[pev],by rw[aEA];exact aFz (qU fun x=>dH _ x),by
   have:re e 0=e:=by unfold re;rw[aD4,aCU]
   rw[this];exact sA.nrm⟩
 |j+1,hj=>by
  obtain⟨T,R,h1,h2,h3⟩:=rest_steps sA sB h0 j qN;have zL:sz (ld B) e:=sB.get _;have zR:=fun i=>h3.get i;refine⟨padd (ptim (ld B) T) (prai (R.getD (dg A-j-1) 0) (dg A-j-dg B) [1]),psub (ptim (ld B) R) (prai (R.getD (dg A-j-1) 0) (dg A-j-dg B) B),fun x=>?_,?_,?_⟩
  ·rw[e9,e8,cJ,cJ,iO,iO];have:=h1 x;have e1:pev [1] x=1:=by simp[pev]
   have e2:ld B^(j+1)*pev A x=ld B*(ld B^j*pev A x):=by rw[aCi];grind
   rw[e1,e2,this];grind
  ·refine iH.2 fun i hi=>?_;rw[nW,o7,qV]
   by_cases hi2:i=dg A-j-1
   ·rw[aBU qN,hi2,show dg A-j-1-(dg A-j-dg B)=dg B-1 by omega];show ld B*_-_*ld B=0
    grind
   ·rw[iH.1 h2 i qN,aBU qN,iH.1 (aBY (dg B)) (i-(dg A-j-dg B)) qN];simp
  ·rw[yS];refine szR_get fun i=>?_;rw[nW,o7,qV]
   split
   ·have:=sz_two zL (zR i) (kX (re e j)) zL;rw[aDe]at this;exact this
   ·exact sz_two zL (zR i) (zR _) (sB.get _)
theorem rest_sz{A B T R:aAd}{e:Nat}(sA:szR e A)(sB:szR e B)(h0:0<dg B)(h:RestSpec A B T R):szR (re e (dg A+1-dg B)) R:=by
 obtain⟨T',R',h1,h2,h3⟩:=rest_steps sA sB h0 _ (aBY _);have hs:RestSpec A B (nrm T') (nrm R'):=⟨iD _,iD _,by
  have e1:dg (nrm R')=dg R':=qU fun x=>dH _ x;rw[e1];omega,fun x=>by rw[dH,dH];exact h1 x⟩
 rw[(h.unique hs).2];exact h3.nrm
theorem rCommonG_meets(k n S D:Nat)(hn:n≤1048576)(hk:4*((2*n+4)*ge k S D+(3*n+6))≤34359738368)(m:Nat):∀(v w:Value) (A B:aAd) (e s d:Nat),dg B≤m→dg B≤dg A→szR e A→szR e B→1≤e→A.length≤n→B.length≤n→e+1≤ge k s d→s+dg B≤S→d+dg A≤D → aAb 194 [v,w] [(v,vd A),(w,vd B)] (fun r os fs=>os=[]∧∃G,aBF A B G∧szR (ge k S D) G∧G.length≤n∧fs=[(r,vd G)]):=by
 have aAt:ge k S D≤(2*n+4)*ge k S D:=aEq _ qN
 induction m with
 |zero =>
  intro v w A B e s d hm _ sA sB h1 lA lB he hs hd;have hle:e+1≤ge k S D:=aBW he (sS qN qN);have hz:dg B=0:=qN;refine mV Tryz.func194 ?_;refine cH (nH w B sB qN)<|cI rfl qN<|cG (oL v A e sA h1 qN qN) fun y1=>fin ⟨rfl,_,com_end hz,sA.pprim.mono qN,aBW (lI _) (aBW (cA _) lA),rfl⟩ (aA qS)
 |succ m ih =>
  intro v w A B e s d hm hBA sA sB h1 lA lB he hs hd;have hle:e+1≤ge k S D:=aBW he (sS qN qN);refine mV Tryz.func194 ?_;refine cH (nH w B sB qN) ?_
  by_cases hz:dg B=0
  ·refine cI rfl qN<|cG (oL v A e sA h1 qN qN) fun y1=>fin ⟨rfl,_,com_end hz,sA.pprim.mono qN,aBW (lI _) (aBW (cA _) lA),rfl⟩ (aA qS)
  have hb0:0<dg B:=qN;refine bY rfl qN ?_;have hpl:=pks_le (e:=e) lA;have hce:ce n e 1=(2*n+4)*e+(3*n+6):=rfl;have hmu2:(2*n+4)*e≤(2*n+4)*ge k S D:=aB6 _ qN;have hrs:=rRestT v w A B e e sA sB h1 (aBY _) qN qN qN;simp only[aBU hz]at hrs;refine cF hrs ?_;rintro _ _ _ ⟨rfl,a,b,T,R,⟨rfl,hsp,sT,sR0,lT,lR⟩,rfl⟩;have aBs:=hsp.low;have hcs:=fun G=>com_step (G:=G) hb0 hsp;have hge:=ge_step (δ:=dg A-dg B) he (show dg A+1-dg B+1≤dg A-dg B+2 by omega);have sR:=rest_sz sA sB hb0 hsp;have hre:=re_ge e (dg A+1-dg B);have hle2:re e (dg A+1-dg B)+1≤ge k S D:=aBW hge (sS qN qN);have ihh:=fun u u'=>ih u u' (pprim B) (pprim R) (re e (dg A+1-dg B)) (s+1) (d+(dg A-dg B)) (by rw[cN];omega) (by rw[cN,cN];omega) (sB.pprim.mono hre) sR.pprim qN (aBW (lI _) (aBW (cA _) lB)) (aBW (lI _) (aBW (cA _) qN)) hge (by rw[cN];omega) (by rw[cN];omega);refine cG (oL w B e sB h1 qN qN) fun y1=>cG (oL b R (re e (dg A+1-dg B)) sR qN qN qN) fun y2=>cF (ihh y1 y2) ?_;rintro y3 _ _ ⟨rfl,G,hG,sG,lG,rfl⟩;exact fin ⟨rfl,G,hcs G hG,sG,lG,rfl⟩ (aA qS)
theorem rGcdG_meets(v w:Value)(p q:Row)(k n:Nat)(hp:Fit k p)(hq:Fit k q)(h1k:1≤k)(lp:p.length≤n)(lq:q.length≤n)(hn:n≤1048576)(hpq:dg (vv q)≤dg (vv p))(hk:4*((2*n+4)*ge k n n+(3*n+6))≤34359738368):aAb 174 [v,w] [(v,V p),(w,V q)] (fun r os fs=>os=[]∧∃G,Nm G∧Gc G (vv p) (vv q)∧fs=[(r,vd G)]):=by
 have hge:k+1≤ge k n n:=by unfold ge;exact aCX _ (aDO (aCq qE) (aCq qE))
 have hge0:k+1≤ge k 0 0:=by unfold ge;exact aCX _ (aDO (aCq qE) (aCq qE))
 have aAt:ge k n n≤(2*n+4)*ge k n n:=aEq _ qN;have hcs1:sz (cP (vv p):Nat) k:=mY hp.szR;have hcs2:sz (cP (vv q):Nat) k:=mY hq.szR;have dP:dg (vv p)≤n:=aBW (cA _) (by rw[cB];exact lp);have dQ:dg (vv q)≤n:=aBW (cA _) (by rw[cB];exact lq);have hcg:sz ((Nat.gcd (cP (vv p)) (cP (vv q)):Nat):Int) k:=by
  by_cases e:cP (vv p)=0
  ·rw[e,aFI];exact hcs2
  ·unfold sz at hcs1⊢;rw[aCA]at hcs1⊢;exact aC3 (aF3 _ (aCN e)) hcs1
 have hgc:=fun u u'=>rGcdZ u u' _ _ k k hcs1 hcs2 qN qN;simp only[aCA]at hgc;have hcm:=fun u u'=>rCommonG_meets k n n n hn hk n u u' (pprim (vv p)) (pprim (vv q)) k 0 0 (by rw[cN];exact dQ) (by rw[cN,cN];exact hpq) hp.szR.pprim hq.szR.pprim h1k (aBW (lI _) dP) (aBW (lI _) dQ) hge0 (by rw[cN];omega) (by rw[cN];omega);have hend:∀G,aBF (pprim (vv p)) (pprim (vv q)) G→Gc (ptim (Nat.gcd (cP (vv p)) (cP (vv q)):Nat) G) (vv p) (vv q):=fun G hG=>gcd_end hG.one (fun h=>by have:=hG.zero h;rw[cN,cN]at this;exact this) hG.dv;have h1:=jP v p k hp h1k qN qN;have h2:=jP w q k hq h1k qN qN;have h3:=nQ v p k hp qN qN;have h4:=nQ w q k hq qN qN;generalize Nat.gcd (cP (vv p)) (cP (vv q))=g at *;refine mV Tryz.func174 ?_;refine cG (h1) fun x1=>cG (h2) fun x2=>cF (hcm x1 x2) ?_;rintro x3 _ _ ⟨rfl,G,hG,sG,lG,rfl⟩;refine cG (h3) fun x4=>cG (h4) fun x5=>cG (hgc x4 x5) fun x6=>?_;have ht:=nF x3 x6 (G.map cn) (g:Nat) (ge k n n) sG.fit (hcg.mono qN) qN (by rw[aBV];omega);rw[dX]at ht;refine cG (ht) fun x7=>fin ⟨rfl,_,ptim_nm _ _,hend G hG,rfl⟩ (aA qS)
theorem pder_dg_le(u:aAd):dg (pder u)≤dg u:=by
 by_cases g:2≤dg u
 ·have:=vJ g;omega
 ·have:=(cR (l:=pder u)).2 fun x=>tU qN x;omega
theorem rSimpleG_meets(v:Value)(p:Row)(k n:Nat)(hp:Fit k p)(h1k:1≤k)(lp:p.length≤n)(hn:n≤1000000)(hk:4*((2*n+4)*ge (k+1) n n+(3*n+6))≤34359738368)(hd:2*pks (dvk (k+1) n) (dvk (k+1) n) (n+2)≤34359738368):aAb 154 [v] [(v,V p)] (fun r os fs=>os=[]∧∃s,SimSpec (vv p) s∧szR (dvk k n) s∧fs=[(r,vd s)]):=by
 have hge:k+1+1≤ge (k+1) n n:=by unfold ge;exact aCX _ (aDO (aCq qE) (aCq qE))
 have aAt:ge (k+1) n n≤(2*n+4)*ge (k+1) n n:=aEq _ qN;have h1:=jP v p k hp h1k qN qN;have sU:=hp.szR.pprim;have lU:(pprim (vv p)).length≤n:=aBW (lI _) (aBW (cA _) (by rw[cB];exact lp));have nU:=mD (vv p);have dU:=cN (vv p);have aAz:∀s g,Nm s→0<dg (vv p)→Gc g (pprim (vv p)) (pder (pprim (vv p)))→(∀x,pev (pprim (vv p)) x=pev g x*pev s x)→SimSpec (vv p) s:=fun s g a1 a2 a3 a4=>⟨a1,fun h=>by omega,fun _=>⟨g,a3,a4⟩⟩;have aBO:dg (vv p)=0→SimSpec (vv p) []:=fun h=>⟨rfl,fun _=>rfl,fun h'=>by omega⟩;rw[d9 nU]at dU;generalize hU:pprim (vv p)=u at *;have sD:=sU.pder qN;have lD:=xO u;have hdk:k≤dvk (k+1) n:=by unfold dvk;omega
 have hd1:1≤dvk (k+1) n:=qN;have hpm:=pks_mono (dvk (k+1) n) (dvk (k+1) n) (show u.length+2≤n+2 by omega);have hde:=fun x=>rDerive_meets x (u.map cn) k sU.fit qN (by rw[aBV];omega);have hgc:=fun x y=>rGcdG_meets x y (u.map cn) ((pder u).map cn) (k+1) n (sU.mono qN).fit sD.fit qN (by rw[aBV];exact lU) (by rw[aBV];omega) qN (by rw[dX,dX];exact pder_dg_le u) hk;simp only[dX]at hde hgc;refine mV Tryz.func154 ?_;refine cG (h1) fun x1=>cH (nH x1 u sU qN)<|aE _ rfl (fun hz=>?_) (fun hz=>?_)
 ·have hu:u=[]:=aC9.1 (by rw[←d9 nU];omega);subst hu;exact fin ⟨rfl,[],aBO dU.symm,fun x hx=>by simp at hx,rfl⟩ (aA qS)
 ·have hu0:0<dg u:=qN;refine cG (hde x1) fun x2=>cF (hgc x1 x2) ?_;rintro x3 _ _ ⟨rfl,G,nG,gG,rfl⟩;have hGd:=gG.1.deg hu0;have sG:szR (dvk (k+1) n) G:=dv_szR gG.1 hu0 (sU.mono qN) nG (by rw[d9 nU];exact lU) qN;have lG:G.length≤n:=by rw[←d9 nG];rw[d9 nU]at hGd;omega
  have hdv:=rDivide_meets x1 x3 (u.map cn) (G.map cn) (dvk (k+1) n) (dvk (k+1) n) (sU.mono hdk).fit sG.fit hd1 (aBY _) (by rw[aBV];omega) (by rw[aBV];omega) (by rw[aBV];omega);simp only[dX]at hdv;refine cF hdv ?_;rintro _ _ _ ⟨rfl,a,t,e,rfl,hsp,rfl⟩;obtain⟨_,ht⟩:=hsp.ok hGd.1 gG.1;have hs:=aAz t G hsp.tn (by rw[d9 nU]at hu0;omega) gG ht;have st:szR (dvk k n) t:=dv_szR ⟨G,fun x=>by rw[ht,aCO]⟩ hu0 sU hsp.tn (by rw[d9 nU];exact lU) qN;exact fin ⟨rfl,t,hs,st,rfl⟩ (aA qS)
set_option maxHeartbeats 4000000 in
theorem rfFloors_meets(v w u:Value)(p:Row)(x y:Bool×aAe)(O1:aAd)(hp:Fit 9 p)(lp:p.length≤9)(hx:Lim x.2)(hxa:x.2.length≤2)(hy:Lim y.2)(hya:y.2.length≤2)(hxr : -36893488147419103232≤jv x)(hyr:jv y≤36893488147419103232)(hch:0<dg (vv p)→jv x≤jv y→∀s,SimSpec (vv p) s→∃ls,ChL ls∧ls.getD 0 []=s∧ls.length≤100∧Flr ls (jv x) (jv y+1) O1):aAb 122 [v,w,u] [(v,V p),(w,J x),(u,J y)] (fun r os fs=>os=[]∧∃q O e,r=.tuple #[q,.int .i64 e]∧(dg (vv p)=0∨jv y<jv x→O=[]∧e=1)∧(0<dg (vv p)→jv x≤jv y→O=O1∧e=0)∧fs=[(q,vd O)]):=by
 have hdeg:=fO v p (hp.mono qE);have hsim:=rSimpleG_meets v p 9 9 hp qE lp qE qE qE;have aAp:=fun d1 d2=>rAddJZ d1 d2 y 1 1 hy qN (jL 1 qE) qE;refine mV Tryz.func122 ?_;refine bD (aB (d:=J x) qM) fun lb hlb=>bD (aB (d:=J y) qM) fun ub hub=>cH hdeg<|aE _ rfl (fun hd0=>?_) (fun hd0=>?_)
 ·
  exact fin ⟨rfl,.slice none 0 0,[],1,rfl,fun _=>⟨rfl,rfl⟩,fun h=>by omega,rfl⟩ (dS (dS (a0 (c8 2 _) (aH _ _))))
 have hd:0<dg (vv p):=qN;refine aD (d:=J y) 0 rfl hub rfl (aR _) fun y1=>aD (d:=J x) 1 rfl hlb rfl (aR _) fun y2=>cH (rCmpJ6 y1 y2 y x 2 hy hya hx hxa qE)<|aE _ rfl (fun hlt=>?_) (fun hlt=>?_)
 ·have hlt':=iR.1 hlt;exact fin ⟨rfl,.slice none 0 0,[],1,rfl,fun _=>⟨rfl,rfl⟩,fun _ h=>by omega,rfl⟩ (dS (dS (a0 (c8 2 _) (aH _ _))))
 have hxy:jv x≤jv y:=aEb.1 fun h=>hlt (iR.2 qN);refine eH [0,1,2,3,4,5,6,7,8] qK<|cL [] [] [] [6] [0,2,3,1,4,5,6,7,8] qK qK qK<|aD (d:=J x) 1 rfl hlb rfl (aR _) fun y3=>aD (d:=J y) 0 rfl hub rfl (aR _) fun y4=>cF hsim ?_;rintro sv _ _ ⟨rfl,s,hs,zs,rfl⟩;refine cG (dZ 1 qE qE) fun ov=>cG (aAp y4 ov) fun hv=>?_;obtain⟨ls,hl,h0,hln,hF⟩:=hch hd hxy s hs;have hsl:=(sim_sz (n:=9) hp.szR (by rw[cB];exact lp) qE hs).2;have hsd:0<dg s:=by obtain⟨g,_,hg⟩:=hs.ok hd;exact(Dv.deg (a:=s) (b:=pprim (vv p)) ⟨g,fun x=>by rw[hg];exact aCO _ _⟩ (by rw[cN];exact hd)).1
 refine dE (cX _ _ 2 fun i=>J ((([]:aAd).map cn).getD i z0))<|dE (aA (fs':=(sv,vd s)::(y3,J x)::(hv,zd (jv y+1))::[]) (bK qM (bK qM (bK qM (Sub.nil _)))))<|wkc_all hl h0 hln (zs.mono qE) hsl hsd (jv x) sv (jv y+1-jv x).toNat (xl:=x) (lo:=jv x) (hi:=jv y+1) (pos:=0) (O:=[]) rfl hx hxa qN qN qN qN ?_ fP ⟨⟨aB0,fun t=>⟨fun h=>by simp at h,fun h=>by omega⟩⟩,aDN _,by rw[cnt_self];simp⟩ fun r O hr hW=>?_
 ·rfl
 have hOO:O=O1:=hW.fl.up.ext hF.up fun t=>by rw[hW.fl.mem,hF.mem]
 refine fin ⟨rfl,r,O,0,rfl,fun h=>by omega,fun _ _=>⟨hOO,rfl⟩,rfl⟩<|aC (cD hr) (dS (dS (aA (fs':=[(r,vd O)]) qS)))
theorem rfIn_meets(v w u:Value)(p:Row)(x y:Bool×aAe)(O1:aAd)(hp:Fit 9 p)(lp:p.length≤9)(hx:Lim x.2)(hxa:x.2.length≤2)(hy:Lim y.2)(hya:y.2.length≤2)(hxr : -36893488147419103232≤jv x)(hyr:jv y≤36893488147419103232)(hfew:O1.length≤1048578)(hin1:∀t,t∈O1→jv x≤t∧t≤jv y)(hch:0<dg (vv p)→jv x≤jv y→∀s,SimSpec (vv p) s→∃ls,ChL ls∧ls.getD 0 []=s∧ls.length≤100∧Flr ls (jv x) (jv y+1) O1):aAb 82 [v,w,u] [(v,V p),(w,J x),(u,J y)] (fun r os fs=>os=[]∧∃q Z e,r=.tuple #[q,.int .i64 e]∧(dg (vv p)=0∨jv y<jv x→Z=[]∧e=1)∧(0<dg (vv p)→jv x≤jv y→Z=vQ (vv p) O1∧e=0)∧fs=[(q,vd Z)]):=by
 refine mV Tryz.func82 ?_;refine bD (aB (d:=J x) qM) fun bx hbx=>bD (aB (d:=J y) qM) fun by' hby=>?_
 refine aD (d:=J x) 1 rfl hbx rfl (aR _) fun y1=>aD (d:=J y) 0 rfl hby rfl (aR _) fun y2=>cF (rfFloors_meets v y1 y2 p x y O1 hp lp hx hxa hy hya hxr hyr hch) ?_;rintro _ _ _ ⟨rfl,q,O,e,rfl,hb,hk,rfl⟩;have hO:(O=[]∧(dg (vv p)=0∨jv y<jv x))∨O=O1:=by
  by_cases g:dg (vv p)=0∨jv y<jv x
  ·exact .inl ⟨(hb g).1,g⟩
  ·exact .inr (hk qN qN).1
 have hfewO:O.length≤1048578:=by
  rcases hO with ⟨h,_⟩|h
  ·rw[h];simp
  ·rw[h];exact hfew
 have hsz:∀t,t∈O→sz t 2:=fun t ht=>by
  rcases hO with ⟨h,_⟩|h
  ·rw[h]at ht;simp at ht
  ·rw[h]at ht;have:=hin1 t ht;exact pI (fB hx hxa) (fB hy hya) this.1 this.2
 have hgm:∀i,i<O.length→O.getD i 0∈O:=fun i hi=>by rw[gE,aB2 hi];exact aCQ _
 have hml:(O.map cn).length=O.length:=aBV _;have hsg:∀y i,i<O.length→aAb 123 [v,y] [(v,V p),(y,J ((O.map cn).getD i z0))] (aAa (.int .i64 (pev (vv p) (O.getD i 0)).sign)):=fun y i hi=>by rw[eD hi];have:=rfSign_meets v y p (cn (O.getD i 0)) 9 2 hp (aV _) (hsz _ (hgm i hi)).len qN qN;rw[dJ]at this;exact this
 refine fI (size:=2) (e:=26) J z0 qE fun v0 hv0=>aO (X:=Nat×Value) (fun x=>([(0,v),(8,q),(9,.int .i64 e),(10,x.2),(11,.int .i64 (x.1:Nat))],[fV 2 J z0 x.2 ((vQ (vv p) (O.take x.1)).map cn)],[(q,vd O),(v,V p)]))
  (fun x=>x.1≤O.length∧isSl x.2) (fun x=>O.length-x.1) rfl ?_ ?_
 ·exact aS (0,v0) ⟨aB3 _,hv0⟩ aB0 qF (aC (aZ 1 _ _) (aC (aZ 1 _ _) (aA qS)))
 rintro⟨i,ov⟩ ⟨hi,hov⟩;simp only at hi hov⊢;refine gL (v:=q) qM<|aE _ rfl (fun hlt=>?_) (fun hlt=>?_)
 ·have hin:i<O.length:=qN;have hil:((vQ (vv p) (O.take i)).map cn).length≤i:=by rw[aBV];have:=aEg (fun t=>decide (pev (vv p) t=0)) (O.take i);unfold vQ;rw[aCr]at this;omega
  have hsn:=inL_snoc (vv p) hin;refine aJ (v:=q) qM i rfl qN fun a1=>aK (d:=J ((O.map cn).getD i z0)) qM (aR _) fun a2=>cH (hsg a2 i hin)<|aE _ rfl (fun hz=>?_) (fun hz=>?_)
  ·rw[aBX (uU.1 hz)]at hsn;refine aJ (v:=q) qM i rfl qN fun a3=>aK (d:=J ((O.map cn).getD i z0)) qM (aR _) fun a4=>fY (size:=2) J z0 ((O.map cn).getD i z0) qE (aB (v:=a4) qM) rfl fun a5=>cW 0 rfl hov (bA (v:=a5) qM) (by simp only[aB1,aB4];omega) (by simp only[aB1,aB4];omega) fun ov2 aBn=>ar rfl qI<|aS (i+1,ov2) ⟨qO,aBn⟩ qO qF ?_;rw[hsn,←nJ,eD hin];exact aA (fs':=[(q,vd O),(v,V p)]) qS
  ·rw[aBU (fun h=>hz (uU.2 h))]at hsn;refine ar rfl qI<|aS (i+1,ov) ⟨qO,hov⟩ qO qF ?_;rw[hsn];exact aA (fs':=[(q,vd O),(v,V p)]) qS
 ·have hin:O.length=i:=qN;subst hin;refine fin ⟨rfl,ov,vQ (vv p) O,e,rfl,fun h=>?_,fun h1 h2=>?_,rfl⟩ (aC (cD hov) (a0 ?_ (aH _ _)))
  ·obtain⟨g1,g2⟩:=hb h;rw[g1];exact⟨rfl,g2⟩
  ·obtain⟨g1,g2⟩:=hk h1 h2;rw[g1];exact⟨rfl,g2⟩
  ·exact(bA (List.Mem.head _)).cast (by rw[aCG])
theorem sngJ_lg{c:Int}{i j k n:Nat}(hc:sz c k)(hi:i<n)(hj:j<n):Lg (wA (cn c) i j) (ww (wA (cn c) i j)) k n :=⟨rfl,by simp[wA];omega,fun r hr=>by
  unfold wA at hr;rcases aCe.1 hr with hr|hr
  ·rw[(aEv.1 hr).2];exact⟨aB3 _,fun x hx=>by simp at hx⟩
  ·rw[aCh.1 hr];refine⟨by simp;omega,fun x hx=>?_⟩;rcases aCe.1 hx with hx|hx
   ·rw[(aEv.1 hx).2];exact⟨z0_lim,aB3 _⟩
   ·rw[aCh.1 hx];exact⟨aV _,hc.len⟩⟩
theorem sngJ_lgJ{c:Bool×aAe}{i j k n:Nat}(hc:Lim c.2∧c.2.length≤k)(hi:i<n)(hj:j<n):Lg (wA c i j) (ww (wA c i j)) k n :=⟨rfl,by simp[wA];omega,fun r hr=>by
  unfold wA at hr;rcases aCe.1 hr with hr|hr
  ·rw[(aEv.1 hr).2];exact⟨aB3 _,fun x hx=>by simp at hx⟩
  ·rw[aCh.1 hr];refine⟨by simp;omega,fun x hx=>?_⟩;rcases aCe.1 hx with hx|hx
   ·rw[(aEv.1 hx).2];exact⟨z0_lim,aB3 _⟩
   ·rw[aCh.1 hx];exact hc⟩
theorem gev_sng(c:Bool×aAe)(i j:Nat)(x y:Int):gev (ww (wA c i j)) x y=jv c*(x^i*y^j):=by
 rw[gev_map];have e:(ww (wA c i j)).map (fun r=>pev r y)=List.replicate i 0++[jv c*y^j]:=by
  unfold ww wA;rw[aCB,aCB,aFc,aFc]
  congr 1
  have e2:vv (List.replicate j z0++[c])=List.replicate j 0++[jv c]:=by unfold vv;rw[aCB,aFc,jv_z0];rfl
  simp only[aC5,aD5,e2];rw[o4];simp[pev];grind
 rw[e,o4];simp[pev];grind
theorem sngJ_gone(c:Int)(i:Nat):wA (cn c) i 0=toW (rN c i):=by show _=(List.replicate i ([]:aAd)++[[c]]).map (fun l=>l.map cn);unfold wA;rw[aCB,aFc];rfl
def lesR(p:Row):Nat→List aAd
 |0=>ww (wA (cn (-1)) 0 1)
 |i+1=>gadd (lesR p i) (ww (wA (p.getD i z0) i 0))
theorem ev_app1(l:aAd)(a x:Int):pev (l++[a]) x=pev l x+x^l.length*a:=by
 induction l with
 |nil=>simp[pev]
 |cons c l ih =>
  rw[aC2,pev,pev,ih,aB1,aCi];grind
theorem lesR_ev(p:Row)(x y:Int):∀i,i≤p.length→gev (lesR p i) x y=pev ((vv p).take i) x-y
 |0,_=>by rw[lesR,gev_sng,dJ,Int.pow_one];simp[pev]
 |i+1,h=>by
  rw[lesR,gev_gadd,gev_sng,lesR_ev p x y i qN];have hi:i<(vv p).length:=by rw[cB];omega
  rw[aDs,aB2 hi];have e:pev ((vv p).take i++[(vv p)[i]]) x=pev ((vv p).take i) x+x^i*(vv p)[i]:=by rw[ev_app1,aCr,aD9 qN]
  show _=pev ((vv p).take i++[(vv p)[i]]) x-y;rw[e];have e3:(vv p)[i]=jv (p.getD i z0):=by rw[←jZ p i qN,gE,aB2 hi];rfl
  rw[e3];grind
def lesA(p:Row):Nat→List Row
 |0=>wA (cn (-1)) 0 1
 |i+1=>toW (lesR p (i+1))
theorem lesA_lg{p:Row}{k n:Nat}(hp:Fit k p)(h1:1≤k)(hn:p.length+2≤n):∀i,i≤p.length→Lg (lesA p i) (lesR p i) (k+i) n
 |0,_=>sngJ_lg ((jL (-1) qE).mono h1) qN qN
 |i+1,h=>by have h1':=lesA_lg hp h1 hn i qN;have h2:Lg (wA (p.getD i z0) i 0) (ww (wA (p.getD i z0) i 0)) (k+i) n:=sngJ_lgJ ⟨(hp.get i).1,aBW (hp.get i).2 qN⟩ qN qN;exact h1'.add h2
theorem gmu_same{G H H':List aAd}(h:∀x y,gev H x y=gev H' x y):gmu G H=gmu G H':=(gmu_gn _ _).ev_ext (gmu_gn _ _) fun x y=>by rw[aAI,aAI,h]
set_option maxHeartbeats 4000000 in
theorem yW(v w u z:Value)(p:Row)(m t y:Bool×aAe)(n:Int)(k a:Nat)(hp:Fit k p)(lp:p.length≤40)(h1k:1≤k)(hk:k≤10000)(hm:Lim m.2)(hma:m.2.length≤a)(ht:Lim t.2)(hta:t.2.length≤a)(hy:Lim y.2)(hya:y.2.length≤a)(h1a:1≤a)(ha:a≤10000)(hn:inK .i64 n)(hn3:n≤3):aAb 18 [v,w,u,z,.int .i64 n] [(v,V p),(w,J m),(u,J t),(z,J y)] (fun r os fs=>os=[]∧∃q,r=.tuple #[q,.int .i64 (matR (vv p) (jv m) (jv t) (jv y) n).2]∧fs=[(q,wd (matR (vv p) (jv m) (jv t) (jv y) n).1)]):=by
 have hsm:∀z,aAb 44 [z] [(z,J m)] (aAa (.int .i64 (jv m).sign)):=fun z=>gX z m.1 m.2 hm qN;have hst:∀z,aAb 44 [z] [(z,J t)] (aAa (.int .i64 (jv t).sign)):=fun z=>gX z t.1 t.2 ht qN;have hsy:∀z,aAb 44 [z] [(z,J y)] (aAa (.int .i64 (jv y).sign)):=fun z=>gX z y.1 y.2 hy qN;have hdl:dg (vv p)≤40:=by have:=cA (vv p);rw[cB]at this;omega
 have hdd:=fO v p (hp.mono qN);have hshp:=wG ((dg (vv p):Nat)-1:Int) n (by simp only[inK];omega) hn
 by_cases hok:rU (vv p) (jv m) (jv t) (jv y) n
 case neg =>
  refine mV Tryz.func18 ?_;refine bD (aB (d:=J m) qM) fun b1 h1=>bD (aB (d:=J t) qM) fun b2 h2=>bD (aB (d:=J y) qM) fun b3 h3=>cH hdd<|cF hshp ?_;rintro _ _ _ ⟨rfl,q,rfl,rfl⟩;refine aE _ rfl (fun g1=>?_) (fun g1=>?_)
  ·
   rw[show matR (vv p) (jv m) (jv t) (jv y) n=([],1)from aBU hok];exact fin ⟨rfl,.slice none 0 0,rfl,rfl⟩ (dS (dS (dS (a0 (c8 1 _) (aH _ _)))))
  refine aD (d:=J m) 2 rfl h1 rfl (aR _) fun y1=>cH (hsm y1)<|aE _ rfl (fun g2=>?_) (fun g2=>?_)
  ·
   rw[show matR (vv p) (jv m) (jv t) (jv y) n=([],1)from aBU hok];exact fin ⟨rfl,.slice none 0 0,rfl,rfl⟩ (dS (dS (dS (a0 (c8 1 _) (aH _ _)))))
  refine aD (d:=J t) 1 rfl h2 rfl (aR _) fun y2=>cH (hst y2)<|aE _ rfl (fun g3=>?_) (fun g3=>?_)
  ·
   rw[show matR (vv p) (jv m) (jv t) (jv y) n=([],1)from aBU hok];exact fin ⟨rfl,.slice none 0 0,rfl,rfl⟩ (dS (dS (dS (a0 (c8 1 _) (aH _ _)))))
  refine aD (d:=J y) 0 rfl h3 rfl (aR _) fun y3=>cH (hsy y3)<|aE _ rfl (fun g4=>?_) (fun g4=>?_)
  ·
   rw[show matR (vv p) (jv m) (jv t) (jv y) n=([],1)from aBU hok];exact fin ⟨rfl,.slice none 0 0,rfl,rfl⟩ (dS (dS (dS (a0 (c8 1 _) (aH _ _)))))
  exact absurd ⟨qN,aEb.1 fun h=>g2 (vD.2 h),aEb.1 fun h=>g3 (iR.2 h),aEb.1 fun h=>g4 (iR.2 h)⟩ hok
 have hres:matR (vv p) (jv m) (jv t) (jv y) n=((shp (dg (vv p)-1) n.toNat).map fun s=>tC (shp (dg (vv p)-1) n.toNat) (eF (jv t)) (eF (jv y)) (xI (vv p) (jv m) n.toNat s),0):=aBX hok;rw[hres];clear hres;obtain⟨k1,k2,k3,k4⟩:=hok;obtain⟨j1,j2,j3,j4,j5,j6⟩:=shpR_ok k1;obtain⟨n,rfl⟩:∃k:Nat,n=(k:Int):=⟨n.toNat,qN⟩;rw[aCW]at *;rw[show(((dg (vv p):Nat)-1:Int)).toNat=dg (vv p)-1 by omega]at j5 j6;rw[k1,j6]at hshp;have hpd:(nrm (vv p)).length=dg (vv p):=rfl;obtain⟨d,hd⟩:∃d,dg (vv p)=d+1:=⟨dg (vv p)-1,qN⟩;have hsg:∀ {s:Int},1≤s→¬s.sign<1:=fun h g=>by have:=vD.1 g;omega
 have hsg0:∀ {s:Int},0≤s→¬s.sign<0:=fun h g=>by have:=iR.1 g;omega
 have q2:=hsg k2;have q3:=hsg0 k3;have q4:=hsg0 k4;rw[hd,aCH]at hshp j5⊢;rw[hd]at hdd;have hne:nrm (vv p)≠[]:=fun e=>by rw[e]at hpd;simp at hpd;omega
 have aBa:=vC d n;have aBx:∀s,s∈shp d n→s.1≤23∧s.2≤3∧s.2≤n:=fun s hs=>by obtain⟨x,y⟩:=s;have h1:=vB.1 hs;have h2:d*(n-y)≤d*n:=aB6 _ qN;simp only;omega
 have hm2:sz (jv m) a:=fB hm hma;have hles:=fun i (hi:i≤p.length)=>lesA_lg (n:=42) hp h1k qN i hi;have hlev:∀x y',gev (lesR p p.length) x y'=gev (jK (nrm (vv p))) x y':=fun x y'=>by rw[lesR_ev p x y' _ (aBY _),gev_gless hne,dH,aCv (by rw[cB];exact aBY _)]
 have aAp:∀i,i<p.length→∀x1 x2,aAb 62 [x1,x2] [(x1,W (lesA p i)),(x2,W (wA (p.getD i z0) i 0))] (aW (W (lesA p (i+1)))):=fun i hi x1 x2=>by have h2:Lg (wA (p.getD i z0) i 0) (ww (wA (p.getD i z0) i 0)) (k+i) 42:=sngJ_lgJ ⟨(hp.get i).1,aBW (hp.get i).2 qN⟩ qN qN;exact wK x1 x2 (hles i qN) h2 qN qE
 have hgl:∀s,s∈shp d n→∀j,j≤s.2→Lg (toW (gpw (jK (nrm (vv p))) (rN (jv m^(n-s.2)) s.1) j)) (gpw (jK (nrm (vv p))) (rN (jv m^(n-s.2)) s.1) j) (23*a+1+3*(k+1)+100) 200:=fun s hs j hj=>by have h1:=aBx s hs;have h2:sz (jv m^(n-s.2)) (23*a+1):=(kH hm2 (n-s.2)).mono (aDT (aBZ a qN));have h3:j*42≤3*42:=aBZ _ qN;have h4:j*(k+1)≤3*(k+1):=aBZ _ qN;have hl:Lg (toW (jK (nrm (vv p)))) (jK (nrm (vv p))) k 42:=(glJ_lg hp.szR.nrm h1k qN qE).toW;exact(gpw_lg hl (gone_lg (n:=24) h2 qN) qE j qN).mono qN qN
 have hlN:=(hles p.length (aBY _)).mono (show k+p.length≤23*a+1+3*(k+1)+100 by omega) (show 42≤200 by decide);have hmu:∀s,s∈shp d n→∀j,j<s.2→∀x1 x2,aAb 63 [x1,x2] [(x1,wd (gpw (jK (nrm (vv p))) (rN (jv m^(n-s.2)) s.1) j)),(x2,W (lesA p p.length))] (aW (wd (gpw (jK (nrm (vv p))) (rN (jv m^(n-s.2)) s.1) (j+1)))):=fun s hs j hj x1 x2=>by have:=rMul12_meets x1 x2 (hgl s hs j qN) hlN qN qE;rw[gmu_same hlev]at this;exact this
 have hat:∀s,s∈shp d n→∀s' x1 x2,aAb 64 [x1,x2] [(x1,wd (xI (vv p) (jv m) n s)),(x2,spE s')] (aW (zd (gv (xI (vv p) (jv m) n s) s'.1 s'.2))):=fun s hs s' x1 x2 =>
  rAt17_meets x1 x2 s' (hgl s hs s.2 (aBY _)) qN qE
 have hgz:∀s,s∈shp d n→∀u v,sz (gv (xI (vv p) (jv m) n s) u v) (23*a+1+3*(k+1)+100):=fun s hs u v=>(hgl s hs s.2 (aBY _)).gv u v;have hscl:∀s,s∈shp d n→sz (i9 (eF (jv t)) (eF (jv y)) s) (2*(23*a+1)):=fun s hs=>by have:=aBx s hs;exact sclV_sz (vL (fB ht hta) h1a) (vL (fB hy hya) h1a) ⟨this.1,qN⟩
 have hsc:=fun s (hs:s∈shp d n) x1 x2 x3=>wH x1 x2 x3 t y s a ht hta hy hya qN (by have:=aBx s hs;omega);have aAt:=fun s (hs:s∈shp d n) s' (hs':s'∈shp d n) x1 x2=>rMulZZ' x1 x2 (gv (xI (vv p) (jv m) n s) s'.1 s'.2) (i9 (eF (jv t)) (eF (jv y)) s') (23*a+1+3*(k+1)+100+2*(23*a+1)) ((hgz s hs _ _).mono qN) ((hscl s' hs').mono qN) qN;have hpw:=fun(i:Nat) (hi:i≤n) y1=>rPowerJ y1 m i a hm hma (by have:(i+1)*(a+1)≤4*(a+1):=aBZ _ qN;omega);have hsing:=fun x1 (i:Nat) (hi:i≤1000) c=>oK x1 c i 0 hi qE;have hsing1:=fun x1=>oK x1 (cn (-1)) 0 1 qE qE;have hmG:∀s,gpw (jK (nrm (vv p))) (rN (jv m^(n-s.2)) s.1) s.2=xI (vv p) (jv m) n s:=fun _=>rfl;clear hgl hscl hm2 k2 k3 k4 j1 hk hdl hles hlev hlN hgz aBa;generalize nrm (vv p)=L at *;generalize hT:eF (jv t)=T at *;generalize hY:eF (jv y)=Y at *;generalize hS:shp d n=S at *;generalize hGG:xI (vv p) (jv m) n=GG at *;refine mV Tryz.func18 ?_;refine bD (aB (d:=J m) qM) fun b1 h1=>bD (aB (d:=J t) qM) fun b2 h2=>bD (aB (d:=J y) qM) fun b3 h3=>cH hdd<|cF hshp ?_;rintro _ _ _ ⟨rfl,q,rfl,rfl⟩;refine bY rfl (fun h=>h rfl)<|aD (d:=J m) 2 rfl h1 rfl (aR _) fun y1=>cH (hsm y1)<|bY rfl q2<|aD (d:=J t) 1 rfl h2 rfl (aR _) fun y2=>cH (hst y2)<|bY rfl q3<|aD (d:=J y) 0 rfl h3 rfl (aR _) fun y3=>cH (hsy y3)<|bY rfl q4<|cG (dZ (-1) qE qE) fun y4=>cG (hsing1 y4) fun l0=>aO (X:=Nat×Value) (fun x=>([(0,v),(4,.int .i64 (n:Nat)),(6,b1),(7,b2),(8,b3),(12,q),(14,x.2),(15,.int .i64 (x.1:Nat))],[bN b3 2 1 (fun _=>J y),bN b2 2 1 (fun _=>J t),bN b1 2 1 (fun _=>J m)],[(x.2,W (lesA p x.1)),(q,ShD S),(v,V p)]))
  (fun x=>x.1≤p.length) (fun x=>p.length-x.1) rfl ?_ ?_
 ·exact aS (0,l0) (aB3 _) aB0 qF (aA qS)
 rintro⟨i,lv⟩ hi;simp only at hi⊢;refine aT (v:=v) (n:=p.length) qM fun _=>aE _ rfl (fun hlt=>?_) (fun hlt=>?_)
 ·have hip:i<p.length:=qN;refine aJ (v:=v) qM i rfl hip fun a1=>aK (d:=J (p.getD i z0)) qM (aR _) fun y5=>cG (hsing y5 i qN (p.getD i z0)) fun y6=>cG (aAp i hip lv y6) fun y7=>ar rfl qI<|aS (i+1,y7) qO qO qF (aA qS)
 have hip:i=p.length:=qN;subst hip;refine fI (size:=1) (e:=22) vd [] qE fun o0 ho0=>aO (X:=Nat×Value) (fun x=>([(4,.int .i64 (n:Nat)),(6,b1),(7,b2),(8,b3),(12,q),(14,lv),(16,x.2),(17,.int .i64 (x.1:Nat))],[fV 1 vd [] x.2 ((S.take x.1).map fun s=>tC S T Y (GG s)),bN b3 2 1 (fun _=>J y),bN b2 2 1 (fun _=>J t),bN b1 2 1 (fun _=>J m)],[(q,ShD S),(lv,W (lesA p p.length))]))
  (fun x=>x.1≤S.length∧isSl x.2) (fun x=>S.length-x.1) rfl ?_ ?_
 ·exact aS (0,o0) ⟨aB3 _,ho0⟩ aB0 qF (aA qS)
 rintro⟨i,xo⟩ ⟨hi,hxo⟩;simp only at hi hxo⊢;refine aT (v:=q) (n:=S.length) qM fun _=>aE _ rfl (fun hlt=>?_) (fun hlt=>?_)
 ·have his:i<S.length:=qN;have hin:S.getD i (0,0)∈S:=dV (0,0) his;have hb:=aBx _ hin;have hmu':=hmu _ hin;have hat':=hat _ hin;have hmul':=aAt _ hin;have hmG':=hmG (S.getD i (0,0));have htk:(S.take (i+1)).map (fun s=>tC S T Y (GG s))=(S.take i).map (fun s=>tC S T Y (GG s))++[tC S T Y (GG (S.getD i (0,0)))]:=by rw[aDs,aB2 his,aCB,gE,aB2 his];rfl
  have htl:((S.take i).map fun s=>tC S T Y (GG s)).length=i:=by rw[aBV,aCr];omega
  generalize hgs:GG (S.getD i (0,0))=gs at *;refine aY [0,1,2,3,4,5,6,7,9,10,11,12,13,8,14,15] [0,1,2,3,4,5,6,7,8,9,10,11,12,13,14,15] qK qK<|aD (d:=J m) 3 rfl h1 rfl (aR _) fun y5=>aJ (v:=q) qM i rfl his fun a1=>mH (v:=a1) (d:=spE (S.getD i (0,0))) qM 1 rfl qE (aU (aL _)) fun a2=>bI (p:=a2) qM<|ar (n:=((n-(S.getD i (0,0)).2:Nat):Int)) (by simp only[arZ,aB5];omega) qI<|aJ (v:=q) qM i rfl his fun a3=>mH (v:=a3) (d:=spE (S.getD i (0,0))) qM 0 rfl qE (bC (aL _)) fun a4=>bI (p:=a4) qM<|cG (hpw (n-(S.getD i (0,0)).2) qN y5) fun y6=>cG (hsing y6 (S.getD i (0,0)).1 qN (cn (jv m^(n-(S.getD i (0,0)).2)))) fun y7=>?_;rw[sngJ_gone];refine aO (X:=Nat×Value) (fun x=>([(4,.int .i64 (n:Nat)),(6,b1),(7,b2),(8,b3),(12,q),(14,lv),(16,xo),(17,.int .i64 (i:Nat)),(18,x.2),(19,.int .i64 (x.1:Nat))],[fV 1 vd [] xo ((S.take i).map fun s=>tC S T Y (GG s)),bN b3 2 1 (fun _=>J y),bN b2 2 1 (fun _=>J t),bN b1 2 1 (fun _=>J m)],
    [(x.2,wd (gpw (jK L) (rN (jv m^(n-(S.getD i (0,0)).2)) (S.getD i (0,0)).1) x.1)),(q,ShD S),(lv,W (lesA p p.length))]))
   (fun x=>x.1≤(S.getD i (0,0)).2) (fun x=>(S.getD i (0,0)).2-x.1) rfl ?_ ?_
  ·exact aS (0,y7) (aB3 _) aB0 qF (aA qS)
  rintro⟨j,gx⟩ hj;simp only at hj⊢;refine aJ (v:=q) qM i rfl his fun a5=>mH (v:=a5) (d:=spE (S.getD i (0,0))) qM 1 rfl qE (aU (aL _)) fun a6=>bI (p:=a6) qM<|aE _ rfl (fun aBb=>?_) (fun aBb=>?_)
  ·
   refine cG (hmu' j qN gx lv) fun y8=>ar rfl qI<|aS (j+1,y8) qO qO qF (aA qS)
  have hjp:j=(S.getD i (0,0)).2:=qN;subst hjp;rw[hmG'];refine fI (size:=2) (e:=26) J z0 qE fun r0 hr0=>aO (X:=Nat×Value) (fun x=>([(4,.int .i64 (n:Nat)),(6,b1),(7,b2),(8,b3),(12,q),(14,lv),(16,xo),(17,.int .i64 (i:Nat)),(18,gx),(20,x.2),(21,.int .i64 (x.1:Nat))],
    [fV 2 J z0 x.2 (((S.take x.1).map fun s=>gv gs s.1 s.2*i9 T Y s).map cn),fV 1 vd [] xo ((S.take i).map fun s=>tC S T Y (GG s)),bN b3 2 1 (fun _=>J y),bN b2 2 1 (fun _=>J t),bN b1 2 1 (fun _=>J m)],[(gx,wd gs),(q,ShD S),(lv,W (lesA p p.length))]))
   (fun x=>x.1≤S.length∧isSl x.2) (fun x=>S.length-x.1) rfl ?_ ?_
  ·exact aS (0,r0) ⟨aB3 _,hr0⟩ aB0 qF (aA qS)
  rintro⟨e,rv'⟩ ⟨he,hrv⟩;simp only at he hrv⊢;refine aT (v:=q) (n:=S.length) qM fun _=>aE _ rfl (fun hlt3=>?_) (fun hlt3=>?_)
  ·have heS:e<S.length:=qN;have hin2:S.getD e (0,0)∈S:=dV (0,0) heS;have htk2:(S.take (e+1)).map (fun s=>gv gs s.1 s.2*i9 T Y s)=(S.take e).map (fun s=>gv gs s.1 s.2*i9 T Y s)++[gv gs (S.getD e (0,0)).1 (S.getD e (0,0)).2*i9 T Y (S.getD e (0,0))]:=by rw[aDs,aB2 heS,aCB,gE,aB2 heS];rfl
   have htl2:(((S.take e).map fun s=>gv gs s.1 s.2*i9 T Y s).map cn).length=e:=by rw[aBV,aBV,aCr];omega
   refine aY [0,1,2,3,4,5,7,8,9,10,11,12,6,13,14,15,16,17] [0,1,2,3,4,5,6,7,8,9,10,11,12,13,14,15,16,17] qK qK<|aJ (v:=q) qM e rfl heS fun a7=>aK (d:=spE (S.getD e (0,0))) qM (jD _) fun y8=>aD (d:=J t) 3 rfl h2 rfl (aR _) fun y9=>aD (d:=J y) 2 rfl h3 rfl (aR _) fun y10=>aJ (v:=q) qM e rfl heS fun a8=>aK (d:=spE (S.getD e (0,0))) qM (jD _) fun y11=>cG (hat' (S.getD e (0,0)) gx y8) fun y12=>cG (hsc _ hin2 y9 y10 y11) fun y13=>cG (hmul' _ hin2 y12 y13) fun y14=>fY (size:=2) J z0 (cn (gv gs (S.getD e (0,0)).1 (S.getD e (0,0)).2*i9 T Y (S.getD e (0,0)))) qE (aB (v:=y14) (d:=zd (gv gs (S.getD e (0,0)).1 (S.getD e (0,0)).2*i9 T Y (S.getD e (0,0)))) qM) rfl fun l1=>cW 0 rfl hrv (bA qM) (by rw[htl2];simp only[aB1,aB4];omega) (by rw[htl2];simp only[aB1,aB4];omega) fun r2 hr2=>ar rfl qI<|aS (e+1,r2) ⟨qO,hr2⟩ qO qF ?_;simp only[htk2,aCB,aC5,aD5];exact aA qS
  have heS:e=S.length:=qN;subst heS;have aBg:(S.take S.length).map (fun s=>gv gs s.1 s.2*i9 T Y s)=tC S T Y gs:=by rw[aCG];rfl
  rw[aBg];refine BuildSliceK.pre (cD hrv)<|fY (size:=1) (e:=22) vd [] (tC S T Y gs) qE (aB (v:=rv') (d:=vd (tC S T Y gs)) qM) rfl fun l3=>cW (size:=1) (e:=22) (f:=vd) (z:=[]) (l:=(S.take i).map fun s=>tC S T Y (GG s)) (m:=[tC S T Y gs]) 0 rfl hxo (bA qM) (by rw[htl];simp only[aB1,aB4];omega) (by rw[htl];simp only[aB1,aB4];omega) fun xo2 hxo2=>ar rfl qI<|aS (i+1,xo2) ⟨qO,hxo2⟩ qO qF ?_;simp only;rw[htk];exact aA qS
 ·have his:i=S.length:=qN;subst his;rw[aCG];refine fin ⟨rfl,xo,rfl,rfl⟩ (aC (Seals.L (f:=vd) (z:=[]) 0 rfl hxo) (dS (dS (aC (aZ 0 _ _) ?_))));exact a0 (Knw.cast (bA (List.Mem.head _)) (LD_wd _)) (aH _ _)
def gK(s:List (Nat×Nat))(T Y:Int)(R:aAd)(k:Nat):List aAd:=gof (gFs s T Y R k) 101 101
theorem gK_ev{s:List (Nat×Nat)}{T Y:Int}{R:aAd}(hn:s.Nodup)(hb:∀p,p∈s→p.1≤100∧p.2≤100)(x y:Int){k:Nat}(hk:k≤s.length):gev (gK s T Y R k) x y=dK (fun k=>R.getD k 0/i9 T Y (s.getD k (0,0))*(x^(s.getD k (0,0)).1*y^(s.getD k (0,0)).2)) k:=by
 obtain⟨n,h1,h2⟩:=rH (gK s T Y R k);rw[gev_fev (n:=max n 101) qN (fun i=>by have:=h2 i;omega)];have e:gv (gK s T Y R k)=gFs s T Y R k:=by
  funext u v
  unfold gK;rw[aAG]
  split
  ·rfl
  ·rename_i h;refine(aAO _ fun j hj e=>h ?_).symm;have:=hb _ (dV (0,0) (show j<s.length by omega));rw[e]at this;simp only at this;omega
 rw[e];exact gFs_fev hn (fun p hp=>by have:=hb p hp;omega) x y _ hk
theorem gK_succ{s:List (Nat×Nat)}{T Y:Int}{R:aAd}(hn:s.Nodup)(hb:∀p,p∈s→p.1≤100∧p.2≤100){k:Nat}(hk:k<s.length):gadd (gK s T Y R k) (ww (wA (cn (R.getD k 0/i9 T Y (s.getD k (0,0)))) (s.getD k (0,0)).1 (s.getD k (0,0)).2))=gK s T Y R (k+1) :=(gn_gn _).ev_ext (aAH _ _ _) fun x y=>by
  have h1:gev (gadd (gK s T Y R k) (ww (wA (cn (R.getD k 0/i9 T Y (s.getD k (0,0)))) (s.getD k (0,0)).1 (s.getD k (0,0)).2))) x y=gev (gK s T Y R (k+1)) x y:=by rw[gev_gadd,gev_sng,dJ,gK_ev hn hb x y qN,gK_ev hn hb x y qN];rfl
  exact h1
theorem gK_lg{s:List (Nat×Nat)}{T Y:Int}{R:aAd}{a:Nat}(hR:szR a R)(k:Nat):Lg (toW (gK s T Y R k)) (gK s T Y R k) a 101:=by
 unfold gK;refine Lg.gof (fun i j=>?_) (aBY _) (aBY _);rcases aAP (s:=s) (T:=T) (Y:=Y) (R:=R) (u:=i) (v:=j) k with ⟨j,_,h2,_⟩|h
 ·rw[h2];exact pH (hR.get j)
 ·rw[h];exact kX _
theorem gK_zero(s:List (Nat×Nat))(T Y:Int)(R:aAd):gK s T Y R 0=[]:=(aAH _ _ _).ext (H:=[]) ⟨rfl,fun r hr=>by simp at hr⟩ fun i j=>by rw[aAG];simp[gFs,gv]
set_option maxHeartbeats 4000000 in
theorem rGrid17_meets(v w u z:Value)(R:aAd)(s:List (Nat×Nat))(t y:Bool×aAe)(a b e:Nat)(hn:s.Nodup)(hb:∀p,p∈s→p.1≤100∧p.2≤100)(ls:s.length≤100)(lR:R.length=s.length)(hR:szR a R)(ha:a≤10000000)(ht:Lim t.2)(hta:t.2.length≤b)(hy:Lim y.2)(hya:y.2.length≤b)(hbb:b≤100000)(hz:∀p,p∈s→sz (i9 (eF (jv t)) (eF (jv y)) p) e)(he:e≤10000000):aAb 31 [v,w,u,z] [(v,vd R),(w,ShD s),(u,J t),(z,J y)] (aW (wd (iF s (eF (jv t)) (eF (jv y)) R))):=by
 have hsc0:=fun p (hp:p∈s) x1 x2 x3=>wH x1 x2 x3 t y p b ht hta hy hya hbb (by have:=hb p hp;omega);have hne:∀p,i9 (eF (jv t)) (eF (jv y)) p≠0:=fun p=>sclV_ne (lst1_ne _) (lst1_ne _) p;have hgd:iF s (eF (jv t)) (eF (jv y)) R=gK s (eF (jv t)) (eF (jv y)) R s.length:=rfl;rw[hgd];generalize eF (jv t)=T at *;generalize eF (jv y)=Y at *;refine mV Tryz.func31 ?_;refine bD (aB (d:=J t) qM) fun b1 h1=>bD (aB (d:=J y) qM) fun b2 h2=>empty_F (size:=1) (e:=22) V [] qE fun g0=>aO (X:=Nat×Value) (fun x=>([(0,v),(1,w),(6,b1),(7,b2),(9,x.2),(10,.int .i64 (x.1:Nat))],[bN b2 2 1 (fun _=>J y),bN b1 2 1 (fun _=>J t)],[(x.2,wd (gK s T Y R x.1)),(v,vd R),(w,ShD s)]))
  (fun x=>x.1≤s.length) (fun x=>s.length-x.1) rfl ?_ ?_
 ·refine aS (0,g0) (aB3 _) aB0 qF ?_;simp only[gK_zero];exact aA qS
 rintro⟨k,g⟩ hk;simp only at hk⊢;refine aT (v:=w) (n:=s.length) qM fun _=>aE _ rfl (fun hlt=>?_) (fun hlt=>?_)
 ·have hks:k<s.length:=qN;have hin:=dV (0,0) hks;have hpb:=hb _ hin;have hRk:(R.map cn).getD k z0=cn (R.getD k 0):=eD qN;have hsc:=hsc0 _ hin;have zR:=hR.get k;have hdm:=fun x1 x2=>rDivModZ x1 x2 (R.getD k 0) (i9 T Y (s.getD k (0,0))) (a+e) (zR.mono qN) ((hz _ hin).mono qN) qN (hne _);have hgs:=gK_succ (T:=T) (Y:=Y) (R:=R) hn hb hks;have zC:sz (R.getD k 0/i9 T Y (s.getD k (0,0))) a:=pH zR;have aAp:∀x1 x2,aAb 62 [x1,x2] [(x1,wd (gK s T Y R k)),(x2,W (wA (cn (R.getD k 0/i9 T Y (s.getD k (0,0)))) (s.getD k (0,0)).1 (s.getD k (0,0)).2))] (aW (wd (gK s T Y R (k+1)))):=fun x1 x2=>by have:=wK x1 x2 (gK_lg (s:=s) (T:=T) (Y:=Y) hR k) (sngJ_lg zC (n:=101) (show(s.getD k (0,0)).1<101 by omega) (show(s.getD k (0,0)).2<101 by omega)) qN qE;rw[hgs]at this;exact this
  generalize R.getD k 0/i9 T Y (s.getD k (0,0))=C at *;generalize R.getD k 0%i9 T Y (s.getD k (0,0))=D at *;refine jN (X:=Value) (fun bq=>([(0,v),(1,w),(6,b1),(7,b2),(9,g),(10,.int .i64 (k:Nat)),(11,bq)],[bN bq 2 1 (fun _=>zd C),bN b2 2 1 (fun _=>J y),bN b1 2 1 (fun _=>J t)],[(g,wd (gK s T Y R k)),(v,vd R),(w,ShD s)])) mG ?_ ?_
  ·
    refine eH [0,1,2,3,4,5,6,7,8,9,10,11,12,13,16,17,18,14,19,15,20] qK<|a9 10 16 qK qK qK ?_ ?_
    ·refine a9 10 17 qK qK qK ?_ ?_
     ·refine a9 11 16 qK qK qK ?_ ?_
      ·refine a9 11 17 qK qK qK ?_ ?_
       ·refine a9 16 17 qK qK qK ?_ ?_
        ·refine cM [0,1,2,3,4,5,6,7,8,9,10,11,12,13,14,15,16,17,18,19,20] qK qK<|aJ (v:=v) qM k rfl (by rw[aBV];omega) fun a1=>aK (d:=J ((R.map cn).getD k z0)) qM (aR _) fun y1=>?_;rw[hRk];refine aD (d:=J t) 1 rfl h1 rfl (aR _) fun y2=>aD (d:=J y) 0 rfl h2 rfl (aR _) fun y3=>aJ (v:=w) qM k rfl hks fun a2=>aK (d:=spE (s.getD k (0,0))) qM (jD _) fun y4=>cG (hsc y2 y3 y4) fun y5=>cF (hdm y1 y5) ?_;rintro _ _ _ ⟨rfl,q,r,rfl,rfl⟩;refine aG (d:=I false []) fun bq hbq=>aG (d:=I false []) fun br hbr=>aF (d:=zd C) 1 rfl hbq rfl qK (aB (v:=q) qM)<|aF (d:=zd D) 0 rfl hbr rfl qK (aB (v:=r) qM)<|aS bq hbq aB0 qF (dS (aC (bE rfl) (aA qS)))
        ·refine cM [0,1,2,3,4,5,6,7,8,9,10,11,12,13,14,15,17,16,18,19,20] qK qK<|aJ (v:=v) qM k rfl (by rw[aBV];omega) fun a1=>aK (d:=J ((R.map cn).getD k z0)) qM (aR _) fun y1=>?_;rw[hRk];refine aD (d:=J t) 1 rfl h1 rfl (aR _) fun y2=>aD (d:=J y) 0 rfl h2 rfl (aR _) fun y3=>aJ (v:=w) qM k rfl hks fun a2=>aK (d:=spE (s.getD k (0,0))) qM (jD _) fun y4=>cG (hsc y2 y3 y4) fun y5=>cF (hdm y1 y5) ?_;rintro _ _ _ ⟨rfl,q,r,rfl,rfl⟩;refine aG (d:=I false []) fun br hbr=>aG (d:=I false []) fun bq hbq=>aF (d:=zd C) 0 rfl hbq rfl qK (aB (v:=q) qM)<|aF (d:=zd D) 1 rfl hbr rfl qK (aB (v:=r) qM)<|aS bq hbq aB0 qF (aC (aZ 1 _ _) (aC (bE rfl) (aA qS)))
       ·refine cM [0,1,2,3,4,5,6,7,8,9,10,17,11,12,13,14,15,16,18,19,20] qK qK<|aJ (v:=v) qM k rfl (by rw[aBV];omega) fun a1=>aK (d:=J ((R.map cn).getD k z0)) qM (aR _) fun y1=>?_;rw[hRk];refine aD (d:=J t) 1 rfl h1 rfl (aR _) fun y2=>aD (d:=J y) 0 rfl h2 rfl (aR _) fun y3=>aJ (v:=w) qM k rfl hks fun a2=>aK (d:=spE (s.getD k (0,0))) qM (jD _) fun y4=>cG (hsc y2 y3 y4) fun y5=>aG (d:=I false []) fun br hbr=>cF (hdm y1 y5) ?_;rintro _ _ _ ⟨rfl,q,r,rfl,rfl⟩;refine aG (d:=I false []) fun bq hbq=>aF (d:=zd C) 0 rfl hbq rfl qK (aB (v:=q) qM)<|aF (d:=zd D) 1 rfl hbr rfl qK (aB (v:=r) qM)<|aS bq hbq aB0 qF (aC (aZ 1 _ _) (aC (bE rfl) (aA qS)))
      ·refine a9 11 17 qK qK qK ?_ ?_
       ·refine cM [0,1,2,3,4,5,6,7,8,9,10,16,11,12,13,14,15,17,18,19,20] qK qK<|aJ (v:=v) qM k rfl (by rw[aBV];omega) fun a1=>aK (d:=J ((R.map cn).getD k z0)) qM (aR _) fun y1=>?_;rw[hRk];refine aD (d:=J t) 1 rfl h1 rfl (aR _) fun y2=>aD (d:=J y) 0 rfl h2 rfl (aR _) fun y3=>aJ (v:=w) qM k rfl hks fun a2=>aK (d:=spE (s.getD k (0,0))) qM (jD _) fun y4=>cG (hsc y2 y3 y4) fun y5=>aG (d:=I false []) fun bq hbq=>cF (hdm y1 y5) ?_;rintro _ _ _ ⟨rfl,q,r,rfl,rfl⟩;refine aG (d:=I false []) fun br hbr=>aF (d:=zd C) 1 rfl hbq rfl qK (aB (v:=q) qM)<|aF (d:=zd D) 0 rfl hbr rfl qK (aB (v:=r) qM)<|aS bq hbq aB0 qF (dS (aC (bE rfl) (aA qS)))
       ·refine a9 16 17 qK qK qK ?_ ?_
        ·refine cM [0,1,2,3,4,5,6,7,8,9,10,16,17,11,12,13,14,15,18,19,20] qK qK<|aJ (v:=v) qM k rfl (by rw[aBV];omega) fun a1=>aK (d:=J ((R.map cn).getD k z0)) qM (aR _) fun y1=>?_;rw[hRk];refine aD (d:=J t) 1 rfl h1 rfl (aR _) fun y2=>aD (d:=J y) 0 rfl h2 rfl (aR _) fun y3=>aJ (v:=w) qM k rfl hks fun a2=>aK (d:=spE (s.getD k (0,0))) qM (jD _) fun y4=>cG (hsc y2 y3 y4) fun y5=>aG (d:=I false []) fun bq hbq=>aG (d:=I false []) fun br hbr=>cF (hdm y1 y5) ?_;rintro _ _ _ ⟨rfl,q,r,rfl,rfl⟩;refine aF (d:=zd C) 1 rfl hbq rfl qK (aB (v:=q) qM)<|aF (d:=zd D) 0 rfl hbr rfl qK (aB (v:=r) qM)<|aS bq hbq aB0 qF (dS (aC (bE rfl) (aA qS)))
        ·refine cM [0,1,2,3,4,5,6,7,8,9,10,17,16,11,12,13,14,15,18,19,20] qK qK<|aJ (v:=v) qM k rfl (by rw[aBV];omega) fun a1=>aK (d:=J ((R.map cn).getD k z0)) qM (aR _) fun y1=>?_;rw[hRk];refine aD (d:=J t) 1 rfl h1 rfl (aR _) fun y2=>aD (d:=J y) 0 rfl h2 rfl (aR _) fun y3=>aJ (v:=w) qM k rfl hks fun a2=>aK (d:=spE (s.getD k (0,0))) qM (jD _) fun y4=>cG (hsc y2 y3 y4) fun y5=>aG (d:=I false []) fun br hbr=>aG (d:=I false []) fun bq hbq=>cF (hdm y1 y5) ?_;rintro _ _ _ ⟨rfl,q,r,rfl,rfl⟩;refine aF (d:=zd C) 0 rfl hbq rfl qK (aB (v:=q) qM)<|aF (d:=zd D) 1 rfl hbr rfl qK (aB (v:=r) qM)<|aS bq hbq aB0 qF (aC (aZ 1 _ _) (aC (bE rfl) (aA qS)))
     ·refine a9 11 16 qK qK qK ?_ ?_
      ·refine cM [0,1,2,3,4,5,6,7,8,9,17,10,11,12,13,14,15,16,18,19,20] qK qK<|aJ (v:=v) qM k rfl (by rw[aBV];omega) fun a1=>aK (d:=J ((R.map cn).getD k z0)) qM (aR _) fun y1=>?_;rw[hRk];refine aD (d:=J t) 1 rfl h1 rfl (aR _) fun y2=>aD (d:=J y) 0 rfl h2 rfl (aR _) fun y3=>aJ (v:=w) qM k rfl hks fun a2=>aK (d:=spE (s.getD k (0,0))) qM (jD _) fun y4=>aG (d:=I false []) fun br hbr=>cG (hsc y2 y3 y4) fun y5=>cF (hdm y1 y5) ?_;rintro _ _ _ ⟨rfl,q,r,rfl,rfl⟩;refine aG (d:=I false []) fun bq hbq=>aF (d:=zd C) 0 rfl hbq rfl qK (aB (v:=q) qM)<|aF (d:=zd D) 1 rfl hbr rfl qK (aB (v:=r) qM)<|aS bq hbq aB0 qF (aC (aZ 1 _ _) (aC (bE rfl) (aA qS)))
      ·refine cM [0,1,2,3,4,5,6,7,8,9,17,10,16,11,12,13,14,15,18,19,20] qK qK<|aJ (v:=v) qM k rfl (by rw[aBV];omega) fun a1=>aK (d:=J ((R.map cn).getD k z0)) qM (aR _) fun y1=>?_;rw[hRk];refine aD (d:=J t) 1 rfl h1 rfl (aR _) fun y2=>aD (d:=J y) 0 rfl h2 rfl (aR _) fun y3=>aJ (v:=w) qM k rfl hks fun a2=>aK (d:=spE (s.getD k (0,0))) qM (jD _) fun y4=>aG (d:=I false []) fun br hbr=>cG (hsc y2 y3 y4) fun y5=>aG (d:=I false []) fun bq hbq=>cF (hdm y1 y5) ?_;rintro _ _ _ ⟨rfl,q,r,rfl,rfl⟩;refine aF (d:=zd C) 0 rfl hbq rfl qK (aB (v:=q) qM)<|aF (d:=zd D) 1 rfl hbr rfl qK (aB (v:=r) qM)<|aS bq hbq aB0 qF (aC (aZ 1 _ _) (aC (bE rfl) (aA qS)))
    ·refine a9 10 17 qK qK qK ?_ ?_
     ·refine a9 11 17 qK qK qK ?_ ?_
      ·refine cM [0,1,2,3,4,5,6,7,8,9,16,10,11,12,13,14,15,17,18,19,20] qK qK<|aJ (v:=v) qM k rfl (by rw[aBV];omega) fun a1=>aK (d:=J ((R.map cn).getD k z0)) qM (aR _) fun y1=>?_;rw[hRk];refine aD (d:=J t) 1 rfl h1 rfl (aR _) fun y2=>aD (d:=J y) 0 rfl h2 rfl (aR _) fun y3=>aJ (v:=w) qM k rfl hks fun a2=>aK (d:=spE (s.getD k (0,0))) qM (jD _) fun y4=>aG (d:=I false []) fun bq hbq=>cG (hsc y2 y3 y4) fun y5=>cF (hdm y1 y5) ?_;rintro _ _ _ ⟨rfl,q,r,rfl,rfl⟩;refine aG (d:=I false []) fun br hbr=>aF (d:=zd C) 1 rfl hbq rfl qK (aB (v:=q) qM)<|aF (d:=zd D) 0 rfl hbr rfl qK (aB (v:=r) qM)<|aS bq hbq aB0 qF (dS (aC (bE rfl) (aA qS)))
      ·refine cM [0,1,2,3,4,5,6,7,8,9,16,10,17,11,12,13,14,15,18,19,20] qK qK<|aJ (v:=v) qM k rfl (by rw[aBV];omega) fun a1=>aK (d:=J ((R.map cn).getD k z0)) qM (aR _) fun y1=>?_;rw[hRk];refine aD (d:=J t) 1 rfl h1 rfl (aR _) fun y2=>aD (d:=J y) 0 rfl h2 rfl (aR _) fun y3=>aJ (v:=w) qM k rfl hks fun a2=>aK (d:=spE (s.getD k (0,0))) qM (jD _) fun y4=>aG (d:=I false []) fun bq hbq=>cG (hsc y2 y3 y4) fun y5=>aG (d:=I false []) fun br hbr=>cF (hdm y1 y5) ?_;rintro _ _ _ ⟨rfl,q,r,rfl,rfl⟩;refine aF (d:=zd C) 1 rfl hbq rfl qK (aB (v:=q) qM)<|aF (d:=zd D) 0 rfl hbr rfl qK (aB (v:=r) qM)<|aS bq hbq aB0 qF (dS (aC (bE rfl) (aA qS)))
     ·refine a9 16 17 qK qK qK ?_ ?_
      ·refine cM [0,1,2,3,4,5,6,7,8,9,16,17,10,11,12,13,14,15,18,19,20] qK qK<|aJ (v:=v) qM k rfl (by rw[aBV];omega) fun a1=>aK (d:=J ((R.map cn).getD k z0)) qM (aR _) fun y1=>?_;rw[hRk];refine aD (d:=J t) 1 rfl h1 rfl (aR _) fun y2=>aD (d:=J y) 0 rfl h2 rfl (aR _) fun y3=>aJ (v:=w) qM k rfl hks fun a2=>aK (d:=spE (s.getD k (0,0))) qM (jD _) fun y4=>aG (d:=I false []) fun bq hbq=>aG (d:=I false []) fun br hbr=>cG (hsc y2 y3 y4) fun y5=>cF (hdm y1 y5) ?_;rintro _ _ _ ⟨rfl,q,r,rfl,rfl⟩;refine aF (d:=zd C) 1 rfl hbq rfl qK (aB (v:=q) qM)<|aF (d:=zd D) 0 rfl hbr rfl qK (aB (v:=r) qM)<|aS bq hbq aB0 qF (dS (aC (bE rfl) (aA qS)))
      ·refine cM [0,1,2,3,4,5,6,7,8,9,17,16,10,11,12,13,14,15,18,19,20] qK qK<|aJ (v:=v) qM k rfl (by rw[aBV];omega) fun a1=>aK (d:=J ((R.map cn).getD k z0)) qM (aR _) fun y1=>?_;rw[hRk];refine aD (d:=J t) 1 rfl h1 rfl (aR _) fun y2=>aD (d:=J y) 0 rfl h2 rfl (aR _) fun y3=>aJ (v:=w) qM k rfl hks fun a2=>aK (d:=spE (s.getD k (0,0))) qM (jD _) fun y4=>aG (d:=I false []) fun br hbr=>aG (d:=I false []) fun bq hbq=>cG (hsc y2 y3 y4) fun y5=>cF (hdm y1 y5) ?_;rintro _ _ _ ⟨rfl,q,r,rfl,rfl⟩;refine aF (d:=zd C) 0 rfl hbq rfl qK (aB (v:=q) qM)<|aF (d:=zd D) 1 rfl hbr rfl qK (aB (v:=r) qM)<|aS bq hbq aB0 qF (aC (aZ 1 _ _) (aC (bE rfl) (aA qS)))
  rintro bq hbq;simp only;refine aY [0,1,2,3,4,5,6,7,8,9,10,11,12,13,14] [0,1,2,3,4,5,6,7,8,9,10,11,12,13,14] qK qK<|aD (d:=zd C) 0 rfl hbq rfl (aM _ _) fun y6=>aJ (v:=w) qM k rfl hks fun a3=>mH (v:=a3) (d:=spE (s.getD k (0,0))) qM 0 rfl qE (bC (aL _)) fun a4=>bI (p:=a4) qM<|aJ (v:=w) qM k rfl hks fun a5=>mH (v:=a5) (d:=spE (s.getD k (0,0))) qM 1 rfl qE (aU (aL _)) fun a6=>bI (p:=a6) qM<|cG (oK y6 (cn C) (s.getD k (0,0)).1 (s.getD k (0,0)).2 qN qN) fun y7=>cG (aAp g y7) fun y8=>ar rfl qI<|aS (k+1,y8) qO qO qF (dS (aA qS))
 ·have hks:k=s.length:=qN;subst hks;exact aAi (dS (dS (aA qS)))
theorem rShort17_meets(v w:Value)(R:aAd)(m:Bool×aAe)(n:Nat)(a b:Nat)(lR:R.length≤1000)(hR:szR a R)(ha:a≤10000000)(hm:Lim m.2)(hma:m.2.length≤b)(hb:b≤10000)(hn:n≤1000):aAb 33 [v,w,.int .i64 (n:Nat)] [(v,vd R),(w,J m)] (aAa (.bool (decide (lV R<jv m^n)))):=by
 have aBj:∀i,sz (lV (R.take i)) (a+1):=fun i=>asum_sz (hR.take i) (by rw[aCr];omega);have hpm:=fun y1=>rPowerJ y1 m n b hm hma (by have:(n+1)*(b+1)≤1001*(b+1):=aBZ _ qN;omega);have zm:sz (jv m^n) (1000*b+1):=(kH (fB hm hma) n).mono (aDT (aBZ _ hn));refine mV Tryz.func33 ?_;refine bD (aB (d:=J m) qM) fun b1 h1=>lS (da:=.one (.bool false)) (db:=U (bX 0)) (fun S w=>⟨[.bool false],[.slice none 0 0],rfl,eG S w,by rw[cK];exact gJ S w 1 _⟩) fun z=>aG (d:=I false []) fun sb hsb=>aF (d:=zd 0) 0 rfl hsb rfl qK (aB (v:=z) qM)<|aO (X:=Nat) (fun i=>([(0,v),(2,.int .i64 (n:Nat)),(4,b1),(7,sb),(8,.int .i64 (i:Nat))],[bN sb 2 1 (fun _=>zd (lV (R.take i))),bN b1 2 1 (fun _=>J m)],[(v,vd R)])) (fun i=>i≤R.length) (fun i=>R.length-i) rfl ?_ ?_
 ·exact aS 0 (aB3 _) aB0 qF (aC (bE rfl) (aA qS))
 rintro i hi;refine gL (v:=v) qM<|aE _ rfl (fun hlt=>?_) (fun hlt=>?_)
 ·have hiR:i<R.length:=qN;have hRi:(R.map cn).getD i z0=cn (R.getD i 0):=eD hiR;have zR:=hR.get i;have htk:R.take (i+1)=R.take i++[R.getD i 0]:=by rw[aDs,aB2 hiR,gE,aB2 hiR];rfl
  have hsi:=aBj i;have hab:∀y,aAb 40 [y] [(y,zd (R.getD i 0))] (aW (zd ((R.getD i 0).natAbs:Nat))):=fun y=>rAbsZ y (R.getD i 0) a zR qN;have had:=fun y1 y2=>rAddZ y1 y2 (lV (R.take i)) ((R.getD i 0).natAbs:Nat) (a+1) hsi ((sz_abs zR).mono qN) qN;refine aY [0,1,2,3,4,5,6,7] [0,1,2,3,4,5,6,7] qK qK<|aD (d:=zd (lV (R.take i))) 0 rfl hsb rfl (aM _ _) fun y4=>oZ (v:=v) qM i rfl hiR fun a5=>aK (d:=zd (R.getD i 0)) qM (aM _ _) fun y5=>cG (hab y5) fun y6=>cG (had y4 y6) fun y7=>aF (d:=zd (lV (R.take i)+((R.getD i 0).natAbs:Nat))) 0 rfl hsb rfl qK (aB qM)<|ar rfl qI<|aS (i+1) qN qO qF ?_;simp only[htk,asum_snoc];exact aC (bE rfl) (aA qS)
 ·have hiR:i=R.length:=qN;subst hiR;have hs:=aBj R.length;rw[aCG]at hs⊢;have hcm:=fun y1 y2=>rCmpZ6 y1 y2 (lV R) (jv m^n) (a+1+(1000*b+1)) (hs.mono qN) (zm.mono qN) qN;refine aY [0,1,2,3,4,5,6] [0,1,2,3,4,5,6] qK qK<|aD (d:=zd (lV R)) 0 rfl hsb rfl (aM _ _) fun y1=>aD (d:=J m) 1 rfl h1 rfl (aR _) fun y2=>cG (hpm y2) fun y3=>cH (hcm y1 y3)<|aE _ rfl (fun hl=>?_) (fun hl=>?_)
  ·rw[aCn (show lV R<jv m^n by have:=iR.1 hl;omega)];exact fin ⟨rfl,rfl,rfl⟩ (dS (dS (aH _ _)))
  ·rw[aCg (show ¬lV R<jv m^n from fun h=>hl (iR.2 qN))];exact fin ⟨rfl,rfl,rfl⟩ (dS (dS (aH _ _)))
theorem fl_hyp9{P:aAd}{x y e:Int}{O:aAd}(h:FlSpec P x y O e)(h9:P.length≤9):0<dg P→x≤y→∀s,SimSpec P s→∃ls,ChL ls∧ls.getD 0 []=s∧ls.length≤100∧Flr ls x (y+1) O:=fun hd hxy s hs=>by obtain⟨_,s',ls,g1,g2,g3,g4,g5⟩:=h.ok hd hxy;obtain rfl:=hs.unique g1;refine⟨ls,g2,g3,?_,g5⟩;obtain⟨g,_,hg⟩:=hs.ok hd;have:=(Dv.deg (a:=s) (b:=pprim P) ⟨g,fun x=>by rw[hg];exact aCO _ _⟩ (by rw[cN];exact hd)).2;rw[cN]at this;have:=cA P;omega
set_option maxHeartbeats 4000000 in
theorem rRoots17_meets(v w u z x0:Value)(f:aAd)(p:Row)(m t y:Bool×aAe)(O:aAd)(e:Int)(hf:szR 9 f)(lf:f.length≤9)(hd:0<dg f)(hp:Fit 1 p)(lp:p.length≤1000)(hm:Lim m.2)(hma:m.2.length≤1)(ht:Lim t.2)(hta:t.2.length≤1)(hy:Lim y.2)(hya:y.2.length≤1)(h1:1≤jv m)(h2:0≤jv t)(h3:0≤jv y)(hO:FlSpec f (-jv t) (jv t) O e):aAb 34 [v,w,u,z,x0] [(v,vd f),(w,V p),(u,J m),(z,J t),(x0,J y)] (aW (vd ((vQ f O).filter fun x=>zN (pev (vv p) x) (jv m) (jv y)))):=by
 have zt:=fB ht hta;have hIn:∀y1 y2,aAb 82 [v,y1,y2] [(v,vd f),(y1,zd (-jv t)),(y2,J t)] (fun r os fs=>os=[]∧∃q e,r=.tuple #[q,.int .i64 e]∧fs=[(q,vd (vQ f O))]):=fun y1 y2=>by
  have hb:(jv t).natAbs<18446744073709551616:=by unfold sz at zt;omega
  have:=rfIn_meets v y1 y2 (f.map cn) (cn (-jv t)) t O hf.fit (by rw[aBV];exact lf) (aV _) (zt.neg.mono qE).len ht qN (by rw[dJ];omega) qN hO.few (by rw[dJ];exact hO.mem) (by rw[dX,dJ];exact fl_hyp9 hO lf);refine this.mono fun r os fs ⟨g1,q,Z,e,g2,_,g3,g4⟩=>?_;rw[dX,dJ]at g3;obtain⟨g5,_⟩:=g3 hd qN;rw[g5]at g4;exact⟨g1,q,e,g2,g4⟩
 have hng:∀z,aAb 35 [z] [(z,J t)] (aW (zd (-jv t))):=fun z=>rNeg_meets z t.1 t.2 ht qN;have aAy:∀x,x∈vQ f O→sz x 1:=fun x hx=>by have h1:=(aFa.1 hx).1;have h2:=hO.mem x h1;exact pI zt.neg zt h2.1 h2.2
 have hfew:(vQ f O).length≤1048578:=aBW (aEg _ _) hO.few;have hwi:∀(x:Int),sz x 1→∀z1 z2 z3,aAb 14 [w,z1,z2,z3] [(w,V p),(z1,J m),(z2,J y),(z3,zd x)] (aAa (.tuple #[.bool (zN (pev (vv p) x) (jv m) (jv y)),.int .i64 0])):=fun x hx z1 z2 z3=>by have:=yU w z1 z2 z3 p m y (cn x) 1 1 hp lp qE hm hma hy hya (aV _) hx.len qE;rw[dJ,show lX (vv p) (jv m) (jv y) x=(zN (pev (vv p) x) (jv m) (jv y),0)from aBU qN]at this;exact this
 clear hO;generalize vQ f O=Is at *;refine mV Tryz.func34 ?_;refine bD (aB (d:=J m) qM) fun b1 hb1=>bD (aB (d:=J t) qM) fun b2 hb2=>bD (aB (d:=J y) qM) fun b3 hb3=>aY [0,1,3,2,4,5,6,7,8,9] [0,1,2,3,4,5,6,8,7,9] qK qK<|aD (d:=J t) 1 rfl hb2 rfl (aR _) fun y1=>aD (d:=J t) 1 rfl hb2 rfl (aR _) fun y2=>cG (hng y1) fun y3=>cF (hIn y3 y2) ?_;rintro _ _ _ ⟨rfl,q,e',rfl,rfl⟩;refine fI (size:=2) (e:=26) J z0 qE fun v0 hv0=>aO (X:=Nat×Value) (fun x=>([(1,w),(7,b1),(9,b3),(11,q),(13,x.2),(14,.int .i64 (x.1:Nat))],
   [fV 2 J z0 x.2 (((Is.take x.1).filter fun x=>zN (pev (vv p) x) (jv m) (jv y)).map cn),bN b3 2 1 (fun _=>J y),bN b2 2 1 (fun _=>J t),bN b1 2 1 (fun _=>J m)],[(q,vd Is),(w,V p)]))
  (fun x=>x.1≤Is.length∧isSl x.2) (fun x=>Is.length-x.1) rfl ?_ ?_
 ·exact aS (0,v0) ⟨aB3 _,hv0⟩ aB0 qF (aA qS)
 rintro⟨i,ov⟩ ⟨hi,hov⟩;simp only at hi hov⊢;have hli:(((Is.take i).filter fun x=>zN (pev (vv p) x) (jv m) (jv y)).map cn).length≤1048578:=by rw[aBV];refine aBW (aEg _ _) ?_;rw[aCr];omega
 refine gL (v:=q) qM<|aE _ rfl (fun hlt=>?_) (fun hlt=>?_)
 ·have hiI:i<Is.length:=qN;have hfs:=aAS (f:=fun x=>zN (pev (vv p) x) (jv m) (jv y)) hiI;have zx:=aAy _ (dV 0 hiI);have hw':=hwi _ zx;have hgX:Is.getD i 0=Is.getD i 0:=rfl;refine aY [0,1,2,3,4,5,6,7,8,9,10,11,12] [0,1,2,3,4,5,6,7,8,9,11,10,12] qK qK<|aD (d:=J m) 3 rfl hb1 rfl (aR _) fun y4=>aD (d:=J y) 1 rfl hb3 rfl (aR _) fun y5=>oZ (v:=q) qM i rfl hiI fun a1=>aK (d:=zd (Is.getD i 0)) qM (aM _ _) fun y6=>cH (hw' y4 y5 y6) ?_
  cases hne:zN (pev (vv p) (Is.getD i 0)) (jv m) (jv y)with
  |true =>
   rw[aBX hne]at hfs;refine oZ (v:=q) qM i rfl hiI fun a2=>aK (d:=zd (Is.getD i 0)) qM (aM _ _) fun y7=>fY (size:=2) J z0 (cn (Is.getD i 0)) qE (aB (v:=y7) (d:=zd (Is.getD i 0)) qM) rfl fun l1=>cW 0 rfl hov (bA qM) (by simp only[aB1,aB4];omega) (by simp only[aB1,aB4];omega) fun o2 ho2=>ar rfl qI<|aS (i+1,o2) ⟨qO,ho2⟩ qO qF ?_;simp only[hfs,aCB,aC5,aD5];exact aA qS
  |false =>
   rw[aBU (by rw[hne];simp)]at hfs;refine ar rfl qI<|aS (i+1,ov) ⟨qO,hov⟩ qO qF ?_;simp only[hfs];exact aA qS
 ·have hiI:i=Is.length:=qN;subst hiI;rw[aCG];exact aAi (aC (cD hov) (dS (dS (dS (aA qS)))))
theorem mQ(v:Value)(l:aAd)(hl:l.length≤1000)(hz:∀x,x∈l → -9223372036854775808≤x∧x<9223372036854775808):aAb 48 [v] [(v,IL l)] (aW (vd l)):=by
 have aAm:lst l.length (fun i=>l.getD i 0)=l:=by have:=vK l fun x=>x;rw[List.map_id']at this;exact this
 have hg:∀i,i<l.length → -9223372036854775808≤l.getD i 0∧l.getD i 0<9223372036854775808:=fun i hi=>hz _ (dV 0 hi);refine mV Tryz.func48 ?_;refine fI (size:=2) (e:=26) J z0 qE fun v0 hv0=>aO (X:=Value×Nat) (fun x=>([(0,v),(3,x.1),(4,.int .i64 (x.2:Nat))],[fV 2 J z0 x.1 ((lst x.2 fun i=>l.getD i 0).map cn)],[(v,IL l)])) (fun x=>isSl x.1∧x.2≤l.length) (fun x=>l.length-x.2) rfl ?_ ?_
 ·exact aS (v0,0) ⟨hv0,aB3 _⟩ aB0 qF (aA qS)
 ·rintro⟨vo,i⟩ ⟨hvo,h2⟩;simp only at hvo h2⊢;refine aT qM fun _=>aE _ rfl (fun hlt=>?_) (fun hlt=>?_)
  ·have hin:i<l.length:=qN;have hll:(lst i fun i=>l.getD i 0).length=i:=cQ _ _;refine aJ qM i rfl hin fun a1=>bI qM<|cG (dZ (l.getD i 0) (hg i hin).1 (hg i hin).2) fun y=>fY (size:=2) (f:=J) (z:=z0) (e:=26) (cn (l.getD i 0)) qE (aB qM) rfl fun y4=>cW (size:=2) (e:=26) (f:=J) (z:=z0) (l:=(lst i fun i=>l.getD i 0).map cn) (m:=[cn (l.getD i 0)]) 0 rfl hvo (bA qM) (by simp only[aBV,hll,aB1,aB4];omega) (by simp only[aBV,hll,aB1,aB4];omega) fun vn hvn=>ar rfl qI<|aS (vn,i+1) ⟨hvn,qO⟩ qO qF ?_;rw[show(lst i fun i=>l.getD i 0).map cn++[cn (l.getD i 0)]=(lst (i+1) fun i=>l.getD i 0).map cn by rw[kN,aCB];rfl];exact aA qS
  ·have hii:i=l.length:=qN;subst hii;refine fin ⟨rfl,rfl⟩ (aC (cD hvo) ?_);rw[aAm];exact aA qS
theorem gN(x:Int)(h1 : -9223372036854775808≤x)(h2:x<9223372036854775808):aAb 23 [.int .i64 x] [] (aW (zd x)):=by refine mV Tryz.func23 ?_;refine aG (d:=I false []) fun o ho=>cG (dZ x h1 h2) fun y=>aF (d:=zd x) 0 rfl ho rfl qK (aB (v:=y) qM)<|aD (d:=zd x) 0 rfl ho rfl (aM _ _) fun r=>aAi (dS (aA qS))
def gI(p:Row)(m t y:Bool×aAe)(n:Int):Dat:=.cat (V p) (.cat (J m) (.cat (J t) (.cat (J y) (.one (.int .i64 n)))))
theorem info_ask:(Tryz.prog.info? 28).map (fun i=>(i.zero,i.size,i.bytes))=some (some (.agg #[.slice none 0 0,.bool false,.slice none 0 0,.bool false,.slice none 0 0,.bool false,.slice none 0 0,.int .i64 0]),8,128):=qK
instance iCYo1:TAgg Tryz.prog 28 8:=⟨⟨_,Tryz.underlying28,rfl⟩,qK⟩
instance iCYo2:xB Tryz.prog 28 0 0:=⟨_,_,Tryz.underlying28,rfl,rfl,0,qK⟩
instance iCYo3:xB Tryz.prog 28 1 1:=⟨_,_,Tryz.underlying28,rfl,rfl,1,qK⟩
instance iCYo4:xB Tryz.prog 28 2 3:=⟨_,_,Tryz.underlying28,rfl,rfl,1,qK⟩
instance iCYo5:xB Tryz.prog 28 3 5:=⟨_,_,Tryz.underlying28,rfl,rfl,1,qK⟩
instance iCYo6:xB Tryz.prog 28 4 7:=⟨_,_,Tryz.underlying28,rfl,rfl,0,qK⟩
def askZ:Dat:=gI [] z0 z0 z0 0
theorem askZ_rd(S:Nat→Prop)(w:World):RdC S w askZ [.slice none 0 0,.bool false,.slice none 0 0,.bool false,.slice none 0 0,.bool false,.slice none 0 0,.int .i64 0] :=⟨[_],[.bool false,.slice none 0 0,.bool false,.slice none 0 0,.bool false,.slice none 0 0,.int .i64 0],rfl,gJ S w 2 _,[.bool false,.slice none 0 0],[.bool false,.slice none 0 0,.bool false,.slice none 0 0,.int .i64 0],rfl,⟨[.bool false],[.slice none 0 0],rfl,eG S w,gJ S w 1 _⟩,
  [.bool false,.slice none 0 0],[.bool false,.slice none 0 0,.int .i64 0],rfl,⟨[.bool false],[.slice none 0 0],rfl,eG S w,gJ S w 1 _⟩,[.bool false,.slice none 0 0],[.int .i64 0],rfl,⟨[.bool false],[.slice none 0 0],rfl,eG S w,gJ S w 1 _⟩,⟨rfl,rfl⟩⟩
instance tzAsk:pC Tryz.prog 28 askZ:=yC info_ask fun S w=>askZ_rd S w
theorem oX(p:Row)(m t y:Bool×aAe)(n:Int):kV Tryz.prog 28 (gI p m t y n):=(inferInstance:TAgg Tryz.prog 28 8)
class TAsk(P:Program)(t:TypeId):Prop where
 und:∃fs f0 f1 f2 f3 f4,P.underlying t=some (.struct fs)∧fs = #[f0,f1,f2,f3,f4]∧f0.offset=0∧f1.offset=1∧f2.offset=3∧f3.offset=5∧f4.offset=7∧(P.info? f0.type).map (·.size)=some 1∧(P.info? f1.type).map (·.size)=some 2∧(P.info? f2.type).map (·.size)=some 2∧(P.info? f3.type).map (·.size)=some 2∧(P.info? f4.type).map (·.size)=some 1
 zero:∃i,P.info? t=some i∧i.zero=some (.agg #[.slice none 0 0,.bool false,.slice none 0 0,.bool false,.slice none 0 0,.bool false,.slice none 0 0,.int .i64 0])
instance iCYo7:TAsk Tryz.prog 28:=⟨⟨_,_,_,_,_,_,Tryz.underlying28,rfl,rfl,rfl,rfl,rfl,rfl,qK,qK,qK,qK,qK⟩,by
 obtain⟨i,h1,_,_,h4⟩:=mU info_ask;exact⟨i,h1,h4⟩⟩
theorem run_ask{t:TypeId}(ht:TAsk P t){v a b c d e f:Value}{n:Int}(hv:v.cells = #[v])(w:World):(Instr.build t #[(0,v),(1,.agg #[a,b]),(2,.agg #[c,d]),(3,.agg #[e,f]),(4,.int .i64 n)]).run P w=.ok (.agg #[v,a,b,c,d,e,f,.int .i64 n]) w:=by obtain⟨_,f0,f1,f2,f3,f4,h1,rfl,h3,h4,h5,h6,h7,h8,h9,h10,h11,h12⟩:=ht.und;obtain⟨i,k1,k2⟩:=ht.zero;have e1:∀l,(Value.agg l).cells=l:=fun _=>rfl;have e2:∀k x,(Value.int k x).cells = #[Value.int k x]:=fun _ _=>rfl;simp[Instr.build,zeroValue,typeInfo,k1,k2,run_underlying h1,bZ h8,bZ h9,bZ h10,bZ h11,bZ h12,h3,h4,h5,h6,h7,Instr.fill,e1,e2,hv,Array.zipIdx]
theorem build_ask{t:TypeId}[ht:TAsk P t]{v a b c:Value}{p:Row}{m t' y:Bool×aAe}{n:Int}(hv:(v,V p)∈fs)(ha:(a,J m)∈fs)(hb:(b,J t')∈fs)(hc:(c,J y)∈fs)(k:∀u,K u os ((u,gI p m t' y n)::fs)):r7 P t [(0,v),(1,a),(2,b),(3,c),(4,.int .i64 n)] os fs K:=by refine⟨fun G w hw=>?_⟩;have h0:=flat_up rfl (hw.facts _ hv);obtain⟨c1,a1,e1⟩:=hw.facts _ ha;obtain⟨c2,a2,e2⟩:=hw.facts _ hb;obtain⟨c3,a3,e3⟩:=hw.facts _ hc;obtain⟨x1,x2,rfl⟩:=RdC.two' a1 rfl;obtain⟨x3,x4,rfl⟩:=RdC.two' a2 rfl;obtain⟨x5,x6,rfl⟩:=RdC.two' a3 rfl;obtain rfl:a=.agg #[x1,x2]:=e1;obtain rfl:b=.agg #[x3,x4]:=e2;obtain rfl:c=.agg #[x5,x6]:=e3;obtain⟨aa,cc,rfl⟩:=one_slice (hw.facts _ hv);exact⟨_,_,fun w' _=>dY (run_ask ht rfl w'),k _,hw.put ⟨[_,x1,x2,x3,x4,x5,x6,.int .i64 n],⟨[_],[x1,x2,x3,x4,x5,x6,.int .i64 n],rfl,h0,[x1,x2],[x3,x4,x5,x6,.int .i64 n],rfl,a1,[x3,x4],[x5,x6,.int .i64 n],rfl,a2,[x5,x6],[.int .i64 n],rfl,a3,⟨rfl,rfl⟩⟩,rfl⟩⟩
theorem pt_p(p:Row)(m t y:Bool×aAe)(n:Int):Part 0 (gI p m t y n) (V p):=bC (aL _)
theorem pt_m(p:Row)(m t y:Bool×aAe)(n:Int):Part 1 (gI p m t y n) (J m):=aU (bC (aL _))
theorem pt_t(p:Row)(m t y:Bool×aAe)(n:Int):Part 3 (gI p m t y n) (J t):=aU (aU (bC (aL _)))
theorem pt_y(p:Row)(m t y:Bool×aAe)(n:Int):Part 5 (gI p m t y n) (J y):=aU (aU (aU (bC (aL _))))
theorem pt_n(p:Row)(m t y:Bool×aAe)(n:Int):Part 7 (gI p m t y n) (.one (.int .i64 n)):=aU (aU (aU (aU (aL _))))
theorem little7_meets(v:Value)(p:Row)(m t y:Bool×aAe)(n:Int)(hn:inK .i64 n)(hp:limR p):aAb 27 [v] [(v,gI p m t y n)] (fun r os fs=>os=[]∧fs=[]∧∃b,r=.bool b∧(b=true→smallR 4 1 p∧m.2.length≤1∧t.2.length≤1∧y.2.length≤1∧n≤2∧(1≤n→((dg (vv p):Nat)-1:Int)*n≤4))):=by
 refine mV Tryz.func27 ?_;refine iQ (aB (d:=gI p m t y n) qM) fun bq=>aY [0,1,2,3,4,5,6,7,8,9,10,11,12,13,14,15,16,17,18,19,20,21,22,23,24,25,26,27,28,29,30,31,33,34,32,35,36,37,38] [0,1,2,3,4,5,6,7,8,9,10,11,12,13,14,15,16,17,18,19,20,21,22,23,24,25,26,27,28,29,30,31,32,33,34,35,36,37,38] qK qK<|bF (p:=bq) (d:=gI p m t y n) qM (pt_p p m t y n) fun a1=>aK (p:=a1) (d:=V p) qM (jF _) fun y1=>cH (rFits_meets y1 p 4 1) ?_
 by_cases hs:p.length≤4∧∀x,x∈p→x.2.length≤1
 case neg =>
  rw[aCg hs];exact fin ⟨rfl,rfl,false,rfl,fun h=>by simp at h⟩ (aH _ _)
 rw[aCn hs];refine bF (p:=bq) (d:=gI p m t y n) qM (pt_m p m t y n) fun a1=>bF (p:=a1) (off:=1) (d:=J m) (d':=U (m).2) qM (aU (aL _)) fun a2=>aK (p:=a2) (d:=U (m).2) qM (c9 _) fun u1=>aT (v:=u1) (n:=(m).2.length) qM fun _=>aE _ rfl (fun h1=>?_) (fun h1=>?_)
 case refine_2 =>
  exact fin ⟨rfl,rfl,false,rfl,fun h=>by simp at h⟩ (aH _ _)
 refine bF (p:=bq) (d:=gI p m t y n) qM (pt_t p m t y n) fun a1=>bF (p:=a1) (off:=1) (d:=J t) (d':=U (t).2) qM (aU (aL _)) fun a2=>aK (p:=a2) (d:=U (t).2) qM (c9 _) fun u1=>aT (v:=u1) (n:=(t).2.length) qM fun _=>aE _ rfl (fun h2=>?_) (fun h2=>?_)
 case refine_2 =>
  exact fin ⟨rfl,rfl,false,rfl,fun h=>by simp at h⟩ (aH _ _)
 refine bF (p:=bq) (d:=gI p m t y n) qM (pt_y p m t y n) fun a1=>bF (p:=a1) (off:=1) (d:=J y) (d':=U (y).2) qM (aU (aL _)) fun a2=>aK (p:=a2) (d:=U (y).2) qM (c9 _) fun u1=>aT (v:=u1) (n:=(y).2.length) qM fun _=>aE _ rfl (fun h3=>?_) (fun h3=>?_)
 case refine_2 =>
  exact fin ⟨rfl,rfl,false,rfl,fun h=>by simp at h⟩ (aH _ _)
 refine bF (p:=bq) (d:=gI p m t y n) qM (pt_n p m t y n) fun a1=>bI (p:=a1) qM<|aE _ rfl (fun h4=>?_) (fun h4=>?_)
 case refine_2 =>
  exact fin ⟨rfl,rfl,false,rfl,fun h=>by simp at h⟩ (aH _ _)
 have hdd:=fun z=>fO z p (fun x hx=>⟨hp x hx,aBW (hs.2 x hx) qE⟩);have hdl:dg (vv p)≤4:=by have:=cA (vv p);rw[cB]at this;omega
 refine bF (p:=bq) (d:=gI p m t y n) qM (pt_p p m t y n) fun a1=>aK (p:=a1) (d:=V p) qM (jF _) fun y2=>bF (p:=bq) (d:=gI p m t y n) qM (pt_n p m t y n) fun a1=>bI (p:=a1) qM<|cH (hdd y2)<|dF rfl (IntKind.i64.wrap (((dg (vv p):Nat)-1:Int)*n)) rfl<|aE _ rfl (fun h5=>?_) (fun h5=>?_)
 case refine_2 =>
  exact fin ⟨rfl,rfl,false,rfl,fun h=>by simp at h⟩ (aH _ _)
 refine fin ⟨rfl,rfl,true,rfl,fun _=>⟨hs,qN,qN,qN,qN,fun g=>?_⟩⟩ (aH _ _);have h6:((dg (vv p):Nat)-1:Int)*n=0-n∨((dg (vv p):Nat)-1:Int)*n=0∨((dg (vv p):Nat)-1:Int)*n=n∨((dg (vv p):Nat)-1:Int)*n=2*n∨((dg (vv p):Nat)-1:Int)*n=3*n:=by have:dg (vv p)=0∨dg (vv p)=1∨dg (vv p)=2∨dg (vv p)=3∨dg (vv p)=4:=qN;rcases this with e|e|e|e|e<;>rw[e]<;>simp<;>omega
 rw[wrapI64]at h5;have h7:=hn.1;have h8:=hn.2;clear hdd;rcases h6 with e|e|e|e|e<;>rw[e]at h5⊢<;>omega
theorem rOwnT(v:Value)(a:Row)(ll:a.length≤274877906944)(hk:∀x,x∈a→x.2.length≤1099511627776):aAb 50 [v] [(v,V a)] (aW (V a)) :=(rOwn_meets v a ll hk).closed fun r os fs ⟨h1,h2,h3⟩=>⟨_,_,⟨rfl,rfl⟩,by
  subst h1 h3;exact Seals.L (f:=J) (z:=z0) 0 rfl h2⟩
theorem own7_meets(v:Value)(p:Row)(m t y:Bool×aAe)(n:Int)(hp:smallR 4 2 p)(hm:m.2.length≤2)(ht:t.2.length≤2)(hy:y.2.length≤2):aAb 12 [v] [(v,gI p m t y n)] (aW (gI p m t y n)):=by
 have h1:=fun z=>rOwnT z [m,t,y] qP (fun x hx=>by simp only[aB9,aFr,or_false]at hx;rcases hx with rfl|rfl|rfl<;>omega);have h2:=fun z=>rOwnT z p (by have:=hp.1;omega) (fun x hx=>by have:=hp.2 x hx;omega);refine mV Tryz.func12 ?_;refine iQ (aB (d:=gI p m t y n) qM) fun bq=>aG (d:=askZ) fun o ho=>bF (p:=bq) (d:=gI p m t y n) qM (pt_m p m t y n) fun a1=>aK (p:=a1) (d:=J m) qM (aR _) fun y1=>bF (p:=bq) (d:=gI p m t y n) qM (pt_t p m t y n) fun a1=>aK (p:=a1) (d:=J t) qM (aR _) fun y2=>bF (p:=bq) (d:=gI p m t y n) qM (pt_y p m t y n) fun a1=>aK (p:=a1) (d:=J y) qM (aR _) fun y3=>dL (size:=2) (n:=3) [y1,y2,y3] [J m,J t,J y] rfl rfl qE qE ⟨aB qM,rfl,aB qM,rfl,aB qM,rfl,aB0⟩ fun l1=>dE (a0 (v:=l1) (d:=V [m,t,y]) (Knw.cast (Knw.sl_cong (e':=fun i=>J ([m,t,y].getD i z0)) (bA (List.Mem.head _)) fun i hi=>?_) rfl) (aA fun _ hF=>.tail _ hF)) ?_
 ·match i,hi with
  |0,_=>rfl
  |1,_=>rfl
  |2,_=>rfl
 refine cG (h1 l1) fun l2=>aY [0,1,3,4,5,6,7,8,9,10,11,12,13,2,14,15] [0,1,2,3,4,5,6,7,8,9,10,11,12,13,14,15] qK qK<|bF (p:=bq) (d:=gI p m t y n) qM (pt_p p m t y n) fun a1=>aK (p:=a1) (d:=V p) qM (jF _) fun y4=>aJ (v:=l2) qM 0 rfl qP fun a3=>aK (p:=a3) (d:=J m) qM (aR _) fun y5=>aJ (v:=l2) qM 1 rfl qP fun a4=>aK (p:=a4) (d:=J t) qM (aR _) fun y6=>aJ (v:=l2) qM 2 rfl qP fun a5=>aK (p:=a5) (d:=J y) qM (aR _) fun y7=>bF (p:=bq) (d:=gI p m t y n) qM (pt_n p m t y n) fun a1=>bI (p:=a1) qM<|cG (h2 y4) fun y8=>build_ask (v:=y8) (a:=y5) (b:=y6) (c:=y7) qM qM qM qM fun u=>aF (d:=gI p m t y n) 0 rfl ho rfl qK (aB (v:=u) qM)<|aD (d:=gI p m t y n) 0 rfl ho rfl (oX _ _ _ _ _) fun r=>aAi (dS (aA qS))
theorem zY(v w:Value)(p:Row)(m t y:Bool×aAe)(n:Int):aAb 21 [v,w] [(v,gI p m t y n),(w,gI p m t y n)] (aAa (.bool true)):=by
 have he:∀x z1 z2,aAb 47 [z1,z2] [(z1,J x),(z2,J x)] (aAa (.bool true)):=fun x z1 z2=>by have:=aAU z1 z2 x x;rw[aCn rfl]at this;exact this
 have ha:∀z1 z2,aAb 26 [z1,z2] [(z1,V p),(z2,V p)] (aAa (.bool true)):=fun z1 z2=>by have:=nV z1 z2 p p;rw[aCn rfl]at this;exact this
 refine mV Tryz.func21 ?_;refine iQ (aB (v:=v) (d:=gI p m t y n) qM) fun bq=>iQ (aB (v:=w) (d:=gI p m t y n) qM) fun bw=>bF (p:=bq) (d:=gI p m t y n) qM (pt_p p m t y n) fun a1=>aK (p:=a1) (d:=V p) qM (jF _) fun y1=>bF (p:=bw) (d:=gI p m t y n) qM (pt_p p m t y n) fun a1=>aK (p:=a1) (d:=V p) qM (jF _) fun y2=>cH (ha y1 y2)<|bF (p:=bq) (d:=gI p m t y n) qM (pt_m p m t y n) fun a1=>aK (p:=a1) (d:=J m) qM (aR _) fun y3=>bF (p:=bw) (d:=gI p m t y n) qM (pt_m p m t y n) fun a1=>aK (p:=a1) (d:=J m) qM (aR _) fun y4=>cH (he m y3 y4)<|bF (p:=bq) (d:=gI p m t y n) qM (pt_t p m t y n) fun a1=>aK (p:=a1) (d:=J t) qM (aR _) fun y5=>bF (p:=bw) (d:=gI p m t y n) qM (pt_t p m t y n) fun a1=>aK (p:=a1) (d:=J t) qM (aR _) fun y6=>cH (he t y5 y6)<|bF (p:=bq) (d:=gI p m t y n) qM (pt_y p m t y n) fun a1=>aK (p:=a1) (d:=J y) qM (aR _) fun y7=>bF (p:=bw) (d:=gI p m t y n) qM (pt_y p m t y n) fun a1=>aK (p:=a1) (d:=J y) qM (aR _) fun y8=>cH (he y y7 y8)<|fin ⟨rfl,rfl,rfl⟩ (aH _ _)
open Go.RowKit Go.ChangeShapes Go.WideShapes Go.ChangeAt Go.Deep
section
variable {H:Type} {enc:TypeId×Value→H} {w:World} {base:Nat} {spare:Nat→Bool} {aBd:Bool}
theorem rd_ask5{t tp ti tn:TypeId}{f0 f1 f2 f3 f4:Field}(ht:P.underlying t=some (.struct #[f0,f1,f2,f3,f4]))(e0:f0.type=tp∧f0.offset=0)(e1:f1.type=ti∧f1.offset=1)(e2:f2.type=ti∧f2.offset=3)(e3:f3.type=ti∧f3.offset=5)(e4:f4.type=tn∧f4.offset=7)(cp:P.cellsOf tp=1)(ci:P.cellsOf ti=2)(cn':P.cellsOf tn=1)(hn:P.underlying tn=some (.int .i64))(ep:∀(n:Nat) (cs:aAf) (x:DataW H×List MemPlace),DataW.trod enc P w base spare aBd n tp cs=some x→∃r:Row,limR r∧RdC (fun b=>b<w.heap.size) w (V r) cs)(ei:∀(n:Nat) (cs:aAf) (x:DataW H×List MemPlace),cs.length=2→DataW.trod enc P w base spare aBd n ti cs=some x→∃y:Bool×aAe,Lim y.2∧RdC (fun b=>b<w.heap.size) w (J y) cs){fuel:Nat}{cs:aAf}{x:DataW H×List MemPlace}(hl:cs.length=8)(h:DataW.trod enc P w base spare aBd fuel t cs=some x):∃(p:Row) (m u y:Bool×aAe) (n:Int),(limR p∧Lim m.2∧Lim u.2∧Lim y.2∧inK .i64 n)∧RdC (fun b=>b<w.heap.size) w (gI p m u y n) cs:=by
 obtain⟨xs,n,_,rfl,_,aAk,hf⟩:=DataW.trod_struct ht h
 match xs,aAk with
 |[y0,y1,y2,y3,y4],_ =>
  have h0:=hf 0 f0 rfl;have h1:=hf 1 f1 rfl;have h2:=hf 2 f2 rfl;have h3:=hf 3 f3 rfl;have h4:=hf 4 f4 rfl;rw[e0.1,e0.2,cp]at h0;rw[e1.1,e1.2,ci]at h1;rw[e2.1,e2.2,ci]at h2;rw[e3.1,e3.2,ci]at h3;rw[e4.1,e4.2,cn']at h4
  match cs,hl with
  |[c0,c1,c2,c3,c4,c5,c6,c7],_ =>
   obtain⟨p,a1,a2⟩:=ep _ _ _ h0;obtain⟨m,b1,b2⟩:=ei _ _ _ rfl h1;obtain⟨u,d1,d2⟩:=ei _ _ _ rfl h2;obtain⟨y,g1,g2⟩:=ei _ _ _ rfl h3;obtain⟨k,k1,_,k2⟩:=DataW.trod_int hn h4;obtain rfl:c7=.int .i64 k:=by simpa using k1
   refine⟨p,m,u,y,k,⟨a1,b1,d1,g1,?_⟩,?_⟩
   ·have:=i64_of k2;simp only[inK];omega
   ·exact⟨[c0],_,rfl,a2,[c1,c2],_,rfl,b2,[c3,c4],_,rfl,d2,[c5,c6],[.int .i64 k],rfl,g2,⟨rfl,rfl⟩⟩
end
theorem rd_askV{t:TypeId}{fs:Array Field}{H:Type}{enc:TypeId×Value→H}{w:World}{r:Reach}{base base':Nat}{spare:Nat→Bool}{aBd:Bool}{v:Value}{d:DataW H}{p:List MemPlace}(ht:P.underlying t=some (.struct fs))(hc:P.cellsOf t=8)(el:∀(n:Nat) (cs:aAf) (x:DataW H×List MemPlace),cs.length=8→DataW.trod enc P w base spare aBd n t cs=some x→∃(p:Row) (m u y:Bool×aAe) (n:Int),(limR p∧Lim m.2∧Lim u.2∧Lim y.2∧inK .i64 n)∧RdC (fun b=>b<w.heap.size) w (gI p m u y n) cs)(hv:Value.okWide P w r base' t v)(h:DataW.Trod enc P w base spare aBd t v d p):∃(p:Row) (m u y:Bool×aAe) (n:Int),(limR p∧Lim m.2∧Lim u.2∧Lim y.2∧inK .i64 n)∧Rd (fun b=>b<w.heap.size) w v (gI p m u y n):=by
 obtain⟨cs,rfl,hsz⟩:=okWide_struct ht hv;obtain⟨fuel,hf⟩:=h;have hcs:(Value.agg cs).cells.toList=cs.toList:=by simp[Value.cells]
 rw[hcs]at hf;obtain⟨p,m,u,y,n,h1,h2⟩:=el _ _ _ (by simpa using hsz.trans hc) hf;exact⟨p,m,u,y,n,h1,cs.toList,h2,by unfold gI tV;simp⟩
set_option maxRecDepth 100000 in
theorem rd_ask{H:Type}{enc:TypeId×Value→H}{w:World}{r:Reach}{base base':Nat}{spare:Nat→Bool}{aBd:Bool}{v:Value}{d:DataW H}{p:List MemPlace}(hv:Value.okWide Tryz.prog w r base' 28 v)(h:DataW.Trod enc Tryz.prog w base spare aBd 28 v d p):∃(p:Row) (m u y:Bool×aAe) (n:Int),(limR p∧Lim m.2∧Lim u.2∧Lim y.2∧inK .i64 n)∧Rd (fun b=>b<w.heap.size) w v (gI p m u y n) :=
 have hc:Tryz.prog.cellsOf 28=8:=qK
 have el:∀(n:Nat) (cs:aAf) (x:DataW H×List MemPlace),cs.length=8→DataW.trod enc Tryz.prog w base spare aBd n 28 cs=some x→∃(p:Row) (m u y:Bool×aAe) (n:Int),(limR p∧Lim m.2∧Lim u.2∧Lim y.2∧inK .i64 n)∧RdC (fun b=>b<w.heap.size) w (gI p m u y n) cs:=fun _ _ _ hl h =>
  rd_ask5 (tp:=23) (ti:=26) (tn:=3) Tryz.underlying28 ⟨rfl,rfl⟩ ⟨rfl,rfl⟩ ⟨rfl,rfl⟩ ⟨rfl,rfl⟩ ⟨rfl,rfl⟩ qK qK qK Tryz.underlying3 (fun _ _ _ h=>rd_poly h) (fun _ _ _ hl h=>rd_int hl h) hl h
 rd_askV (P:=Tryz.prog) (t:=28) (v:=v) (r:=r) (base:=base) (base':=base') Tryz.underlying28 hc el hv h
theorem fit7{l:aAd}(h:∀x,x∈l→x.natAbs<18446744073709551616):Fit 1 (l.map cn):=Fit_cn fun x hx=>by have:=h x hx;unfold sz;simpa using this
theorem sm7(x:Int)(h:x.natAbs<18446744073709551616):sz x 1:=by unfold sz;simpa using h
theorem shapeT(v w:Value)(a b:List (Nat×Nat))(h:a=b):aAb 19 [v,w] [(v,ShD a),(w,ShD b)] (aAa (.bool true)):=by have:=xE v w a b;rw[aCn h]at this;exact this
theorem rowsT(v w:Value)(a b:List aAd)(h:a=b):aAb 20 [v,w] [(v,wd a),(w,wd b)] (aAa (.bool true)):=by subst h;have:=yR v w (a.map (·.map cn)) (a.map (·.map cn));rw[aCn rfl]at this;exact this
theorem sh7_shape:aAb 15 [.int .i64 2,.int .i64 1] [] (fun r os fs=>os=[]∧∃q,r=.tuple #[q,.int .i64 0]∧fs=[(q,ShD [(0,0),(1,0),(2,0),(0,1)])]):=by have h:=rP 2 1 (by simp only[inK];omega) (by simp only[inK];omega);rw[show shpR 2 1=([(0,0),(1,0),(2,0),(0,1)],0)by decide]at h;exact h
theorem sh7_mat(v w u z:Value):aAb 17 [v,w,u,z,.int .i64 1] [(v,vd [3,5]),(w,zd 100),(u,zd 4),(z,zd 2)] (fun r os fs=>os=[]∧∃q,r=.tuple #[q,.int .i64 0]∧fs=[(q,wd [[100,0,0],[0,400,0],[3,20,-2]])]):=by have h:=pS v w u z (([3,5]:aAd).map cn) (cn 100) (cn 4) (cn 2) 1 1 1 (fit7 qE) qE qE qE (aV _) (sm7 100 qE).len (aV _) (sm7 4 qE).len (aV _) (sm7 2 qE).len qE qE (by simp only[inK];omega);rw[dX,dJ,dJ,dJ,show matR [3,5] 100 4 2 1=([[100,0,0],[0,400,0],[3,20,-2]],0)by decide +kernel]at h;exact h
theorem sh7_all(v w u z:Value):aAb 24 [v,w,u,z] [(v,vd [3,5]),(w,zd 100),(u,zd 25),(z,zd 2)] (fun r os fs=>os=[]∧∃q,r=.tuple #[q,.int .i64 0]∧fs=[(q,vd [-21,-1,19])]):=by have h:=slzAll_meets v w u z (([3,5]:aAd).map cn) (cn 100) (cn 25) (cn 2) 1 1 (fit7 qE) qE qE (aV _) (sm7 100 qE).len (aV _) (sm7 25 qE).len (aV _) (sm7 2 qE).len qE;rw[dX,dJ,dJ,dJ,show allR [3,5] 100 25 2=([-21,-1,19],0)by decide +kernel]at h;exact h
theorem sh7_with(v w u z:Value):aAb 13 [v,w,u,z] [(v,vd [3,5]),(w,zd 100),(u,zd 2),(z,zd 19)] (aAa (.tuple #[.bool true,.int .i64 0])):=by have h:=yJ v w u z (([3,5]:aAd).map cn) (cn 100) (cn 2) (cn 19) 1 1 (fit7 qE) qE qE (aV _) (sm7 100 qE).len (aV _) (sm7 2 qE).len (aV _) (sm7 19 qE).len qE;rw[dX,dJ,dJ,dJ,show lX [3,5] 100 2 19=(true,0)by decide +kernel]at h;exact h
theorem sh7_lil:Lil [222,389] 1000 5 1 1 1:=⟨qE,qE,qE,qE,qE,qE,fun x hx=>sm7 x (by revert x;decide),qE,sm7 _ qE,sm7 _ qE,sm7 _ qE⟩
theorem sh7_R:lR [222,389] 1000 5 1 1 1=[[4,-10,18],[-82,205,131],[882,295,-31]]:=by have h1:=sh7_lil.red;have h2:=lred_cn (M:=lA [222,389] 1000 5 1 1 1) (f:=40) (R1:=[[4,-10,18],[-82,205,131],[882,295,-31]]) (R2:=[[4,7,-18],[29,51,-131],[-6,-12,31]]) (by decide +kernel) (by decide +kernel) (by decide +kernel);rw[h1]at h2;exact aDA (·.1) h2
theorem sh7_F:lF [222,389] 1000 5 1 1 1=([-2000,1000],true):=by
 unfold lF;rw[sh7_R]
 decide +kernel
theorem rise_one{a:Int}:∀ {l:aAd},Rise l→(∀t,t∈l↔t=a)→l=[a]
 |[],_,h=>absurd ((h a).2 rfl) qP
 |[b],_,h=>by rw[(h b).1 qP]
 |b::c::l,hr,h=>by have h1:=(h b).1 qP;have h2:=(h c).1 qP;have h3:=hr.1 c qP;omega
theorem sh7_L{L:aAd}{dec:Bool}(h:SolveOk [222,389] 1000 5 1 1 1 L dec):dec=true∧L=[2]:=by
 have h0:=h.ok;rw[sh7_F]at h0;obtain⟨h1,O,e,h2,rfl⟩:=h0 rfl;obtain⟨h3,h4,_⟩:=in_all h2 qE qE;refine⟨h1,rise_one (h3.filter _) fun t=>?_⟩;rw[aFa,h4]
 constructor
 ·rintro⟨⟨g1,g2,g3⟩,_⟩;have:t = -5∨t = -4∨t = -3∨t = -2∨t = -1∨t=0∨t=1∨t=2∨t=3∨t=4∨t=5:=qN;rcases this with rfl|rfl|rfl|rfl|rfl|rfl|rfl|rfl|rfl|rfl|rfl<;>first|rfl|exact absurd g3 qE
 ·rintro rfl;exact⟨⟨qE,qE,qE⟩,by decide +kernel⟩
theorem sh7_solve(v w u z:Value):aAb 28 [v,w,u,z,.int .i64 1] [(v,vd [222,389]),(w,zd 1000),(u,zd 5),(z,zd 1)] (fun r os fs=>os=[]∧∃q,r=.tuple #[q,.bool true,.int .i64 0]∧fs=[(q,vd [2])]):=by have h:=yK v w u z (([222,389]:aAd).map cn) (cn 1000) (cn 5) (cn 1) 1 1 (fit7 qE) (aV _) (sm7 1000 qE).len (aV _) (sm7 5 qE).len (aV _) (sm7 1 qE).len (by rw[dX,dJ,dJ,dJ];exact sh7_lil);rw[dX,dJ,dJ,dJ]at h;refine h.mono ?_;rintro r os fs ⟨h1,q,L,dec,h2,h3,h4⟩;obtain⟨rfl,rfl⟩:=sh7_L h3;exact⟨h1,q,h2,h4⟩
theorem shown7_meets:aAb 10 [] [] (aAa (.bool true)):=by
 refine mV Tryz.func10 ?_;refine zS [3,5] rfl rfl qE fun s1=>cG (mQ s1 [3,5] qE qE) fun p=>cF (sh7_shape) ?_;rintro _ _ _ ⟨rfl,sh,rfl,rfl⟩;refine cG (gN 100 qE qE) fun n1=>cG (gN 4 qE qE) fun n2=>cG (gN 2 qE qE) fun n3=>cF (sh7_mat p n1 n2 n3) ?_;rintro _ _ _ ⟨rfl,mt,rfl,rfl⟩;refine cG (gN 100 qE qE) fun n4=>cG (gN 25 qE qE) fun n5=>cG (gN 2 qE qE) fun n6=>cF (sh7_all p n4 n5 n6) ?_;rintro _ _ _ ⟨rfl,al,rfl,rfl⟩;refine cG (gN 100 qE qE) fun n7=>cG (gN 2 qE qE) fun n8=>cG (gN 19 qE qE) fun n9=>cH (sh7_with p n7 n8 n9)<|zS [222,389] rfl rfl qE fun s2=>cG (mQ s2 [222,389] qE qE) fun p2=>cG (gN 1000 qE qE) fun n10=>cG (gN 5 qE qE) fun n11=>cG (gN 1 qE qE) fun n12=>cF (sh7_solve p2 n10 n11 n12) ?_;rintro _ _ _ ⟨rfl,so,rfl,rfl⟩;refine mZ<|mZ<|mZ<|mZ<|dL (size:=2) (n:=4) [spot 0 0,spot 1 0,spot 2 0,spot 0 1] [spE (0,0),spE (1,0),spE (2,0),spE (0,1)] rfl rfl qE qE ⟨Reads.spot _ _,rfl,Reads.spot _ _,rfl,Reads.spot _ _,rfl,Reads.spot _ _,rfl,aB0⟩ fun l1=>dE (a0 (v:=l1) (d:=ShD [(0,0),(1,0),(2,0),(0,1)]) (Knw.cast (Knw.sl_cong (e':=fun i=>spE (([(0,0),(1,0),(2,0),(0,1)]:List (Nat×Nat)).getD i (0,0))) (bA (List.Mem.head _)) fun i hi=>?_) rfl) (aA fun _ hF=>.tail _ hF)) ?_
 ·match i,hi with
  |0,_=>rfl
  |1,_=>rfl
  |2,_=>rfl
  |3,_=>rfl
 refine cH (shapeT sh l1 _ _ rfl)<|zS [100,0,0] rfl rfl qE fun s3=>cG (mQ s3 [100,0,0] qE qE) fun r1=>zS [0,400,0] rfl rfl qE fun s4=>cG (mQ s4 [0,400,0] qE qE) fun r2=>zS [3,20,-2] rfl rfl qE fun s5=>cG (mQ s5 [3,20,-2] qE qE) fun r3=>dL (size:=1) (n:=3) [r1,r2,r3] [vd [100,0,0],vd [0,400,0],vd [3,20,-2]] rfl rfl qE qE ⟨aB qM,rfl,aB qM,rfl,aB qM,rfl,aB0⟩ fun l2=>dE (a0 (v:=l2) (d:=wd [[100,0,0],[0,400,0],[3,20,-2]]) (Knw.cast (Knw.sl_cong (e':=fun i=>V (([[100,0,0],[0,400,0],[3,20,-2]]:List aAd).map (·.map cn) |>.getD i [])) (bA (List.Mem.head _)) fun i hi=>?_) rfl) (aA fun _ hF=>.tail _ hF)) ?_
 ·match i,hi with
  |0,_=>rfl
  |1,_=>rfl
  |2,_=>rfl
 refine cH (rowsT mt l2 _ _ rfl)<|zS [-21,-1,19] rfl rfl qE fun s6=>cG (mQ s6 [-21,-1,19] qE qE) fun r4=>cH (exallT al r4 _ _ rfl)<|zS [2] rfl rfl qE fun s7=>cG (mQ s7 [2] qE qE) fun r5=>cH (exallT so r5 _ _ rfl)<|cI rfl rfl<|cI rfl rfl<|cI rfl rfl<|cI rfl rfl<|cI rfl rfl<|fin ⟨rfl,rfl,rfl⟩ (aH _ _)
theorem ne_bool{t:TypeId}[ht:TBool P t]{x y:Operand}{a b:Bool}(h:a=b)(k:K (.bool false) os fs):BinK P .neq t x y (.bool a) (.bool b) os fs K :=iS (fun g=>absurd h g) (fun _=>k)
theorem store_seal{ty:TypeId}{x v:Value}{d:Dat}{size:Nat}{e:Nat→Dat}(hb:mG v)(hd:d.cells=size)(ht:(P.info? ty).map (·.size)=some size)(hx:Reads (bN v size 1 e::os) fs x d)(k':K undef os ((v,.ptr d)::fs)):StoreK P ty v x (bN v size 1 e::os) fs K :=⟨fun G w hw=>((aF (K:=fun u os' fs'=>∃os'' fs'',Seals os' fs' os'' fs''∧K u os'' fs'') 0 rfl hb hd ht hx ⟨_,_,eL (os:=bN v size 1 (upd e 0 d)::os) 0 rfl hb rfl,k'⟩).out G w hw).mono fun _ _ ⟨_,_,⟨o2,f2,hs,hk⟩,hh⟩=>⟨o2,f2,hk,hs _ _ hh⟩⟩
theorem lil_of{p:Row}{m t y:Bool×aAe}{n:Int}(hp:limR p)(hm:Lim m.2)(ht:Lim t.2)(hy:Lim y.2)(h:smallR 4 1 p∧m.2.length≤1∧t.2.length≤1∧y.2.length≤1∧n≤2∧(1≤n→((dg (vv p):Nat)-1:Int)*n≤4))(hok:rU (vv p) (jv m) (jv t) (jv y) n):∃d k:Nat,n=(k:Int)∧Lil (vv p) (jv m) (jv t) (jv y) d k:=by
 obtain⟨h1,h2,h3,h4,h5,h6⟩:=h;have hs:=hok.1;unfold shpR at hs
 split at hs
 ·simp at hs
 rename_i hb;simp only[not_or,aEb]at hb;have hf:=h1.fit hp;refine⟨dg (vv p)-1,n.toNat,qN,⟨by rw[aF7 qN];exact hok,qN,qN,qN,?_,qN,hf.szR,by rw[cB];exact h1.1,fB hm h2,fB ht h3,fB hy h4⟩⟩;have h7:=h6 hb.2.1;have e:((dg (vv p):Nat)-1:Int)*n=((((dg (vv p)-1)*n.toNat:Nat)):Int):=by rw[aCK,aF7 qN,Int.natCast_sub qN];rfl
 omega
theorem sh_deg{P:aAd}{m t y:Int}{d k:Nat}(hl:Lil P m t y d k):shpR ((dg P:Nat)-1:Int) (k:Int)=(shp d k,0):=by
 have h:=hl.ok.1;unfold shpR at h⊢
 split at h
 ·simp at h
 rename_i hb;rw[aBU hb,hl.dg]
 congr 2<;>omega
theorem lil_grid{m t y:Bool×aAe}{P:aAd}{d k:Nat}(hl:Lil P (jv m) (jv t) (jv y) d k)(ht:Lim t.2)(hta:t.2.length≤1)(hy:Lim y.2)(hya:y.2.length≤1){R:aAd}(lR:R.length=(shp d k).length)(zR:szR 4000 R)(v w u z:Value):aAb 31 [v,w,u,z] [(v,vd R),(w,ShD (shp d k)),(u,J t),(z,J y)] (aW (wd (iF (shp d k) (eF (jv t)) (eF (jv y)) R))) :=rGrid17_meets v w u z R (shp d k) t y 4000 1 10 (yN d k) (fun p hp=>by have:=hl.small hp;omega) (by have:=hl.len;omega) lR zR qE ht hta hy hya qE (fun p hp=>hl.scl hp) qE
theorem lil_gridLg{m t y:Int}{P:aAd}{d k:Nat}(hl:Lil P m t y d k){R:aAd}(zR:szR 4000 R):Lg (toW (iF (shp d k) (eF t) (eF y) R)) (iF (shp d k) (eF t) (eF y) R) 4000 24 :=gridV_lg (fun p hp=>by have:=hl.small hp;omega) qE zR
theorem SolveOk.same{P:aAd}{m t y:Int}{d n:Nat}{L L':aAd}{dec dec':Bool}(h:SolveOk P m t y d n L dec)(h':SolveOk P m t y d n L' dec')(hl:Lil P m t y d n):L=L'∧dec=dec':=by
 cases hF:(lF P m t y d n).2
 ·obtain⟨a,b⟩:=h.und hF;obtain⟨a',b'⟩:=h'.und hF;exact⟨a.trans a'.symm,b.trans b'.symm⟩
 ·obtain⟨a,O,e,h1,rfl⟩:=h.ok hF;obtain⟨a',O',e',h1',rfl⟩:=h'.ok hF;obtain⟨_,_,hd,_⟩:=hl.fsz hF;have ht:=hl.pos.2.1;obtain⟨r,h2,_⟩:=in_all h1 hd qN;obtain⟨r',h2',_⟩:=in_all h1' hd qN;refine⟨?_,a.trans a'.symm⟩;rw[r.ext r' fun x=>by rw[h2,h2']]
theorem lF_no{P:aAd}{m t y:Int}{d n:Nat}(h:¬(lV ((lR P m t y d n).getD 0 [])<m^n∧lV ((lR P m t y d n).getD 1 [])<m^n∧0<dg (gel (iF (shp d n) (eF t) (eF y) ((lR P m t y d n).getD 0 [])) (iF (shp d n) (eF t) (eF y) ((lR P m t y d n).getD 1 []))))):(lF P m t y d n).2=false:=by
 unfold lF rZ
 split
 ·rename_i g;simp only[decide_eq_false_iff_not];exact fun e=>h ⟨g.1,g.2,e⟩
 ·rfl
theorem lF_yes{P:aAd}{m t y:Int}{d n:Nat}(h:lV ((lR P m t y d n).getD 0 [])<m^n∧lV ((lR P m t y d n).getD 1 [])<m^n∧0<dg (gel (iF (shp d n) (eF t) (eF y) ((lR P m t y d n).getD 0 [])) (iF (shp d n) (eF t) (eF y) ((lR P m t y d n).getD 1 [])))):lF P m t y d n=(gel (iF (shp d n) (eF t) (eF y) ((lR P m t y d n).getD 0 [])) (iF (shp d n) (eF t) (eF y) ((lR P m t y d n).getD 1 [])),true):=by unfold lF rZ;rw[aBX ⟨h.1,h.2.1⟩,aCn h.2.2]
theorem solves7_meets(v:Value)(p:Row)(m t y:Bool×aAe)(n:Int)(hp:limR p)(hm:Lim m.2)(ht:Lim t.2)(hy:Lim y.2)(hn:inK .i64 n):aAb 5 [v] [(v,gI p m t y n)] (aAa (.bool true)):=by
 refine mV Tryz.func5 ?_;refine iQ (aB (v:=v) (d:=gI p m t y n) qM) fun bq=>cH (shown7_meets)<|aK (p:=bq) (d:=gI p m t y n) qM (oX _ _ _ _ _) fun yf=>cF (little7_meets yf p m t y n hn hp) ?_;rintro _ _ _ ⟨rfl,rfl,b,rfl,hb⟩
 cases b
 ·
  exact fin ⟨rfl,rfl,rfl⟩ (aH _ _)
 ·
  have hb':=hb rfl;obtain⟨h4',hm2,ht2,hy2,hn2,_⟩:=hb';have h4:smallR 4 2 p:=⟨h4'.1,fun x hx=>aBW (h4'.2 x hx) qE⟩;have hf:=h4'.fit hp;have lp:=h4.1;have hmx:=fun z1 z2 z3 z4=>yW z1 z2 z3 z4 p m t y n 1 1 hf qN qE qE hm hm2 ht ht2 hy hy2 qE qE hn qN;refine aK (p:=bq) (d:=gI p m t y n) qM (oX _ _ _ _ _) fun ya=>cG (own7_meets ya p m t y n h4 qN qN qN) fun yo=>aG (d:=askZ) fun bo ho=>store_seal (d:=gI p m t y n) ho rfl qK (aB (v:=yo) qM)<|bF (p:=bo) (d:=gI p m t y n) qM (pt_p p m t y n) fun a1=>aK (p:=a1) (d:=V p) qM (jF _) fun y1=>bF (p:=bo) (d:=gI p m t y n) qM (pt_m p m t y n) fun a1=>aK (p:=a1) (d:=J m) qM (aR _) fun y2=>bF (p:=bo) (d:=gI p m t y n) qM (pt_t p m t y n) fun a1=>aK (p:=a1) (d:=J t) qM (aR _) fun y3=>bF (p:=bo) (d:=gI p m t y n) qM (pt_y p m t y n) fun a1=>aK (p:=a1) (d:=J y) qM (aR _) fun y4=>bF (p:=bo) (d:=gI p m t y n) qM (pt_n p m t y n) fun a1=>bI (p:=a1) qM ?_
  by_cases hok:rU (vv p) (jv m) (jv t) (jv y) n
  case neg =>
   have hsv:=fun z1 z2 z3 z4=>slzSolve_bad z1 z2 z3 z4 p m t y n 1 1 hf qN qE hm hm2 ht ht2 hy hy2 qE hn hok;rw[show matR (vv p) (jv m) (jv t) (jv y) n=([],1)from aBU hok]at hmx;refine cF (hsv y1 y2 y3 y4) ?_;rintro _ _ _ ⟨rfl,q1,rfl,rfl⟩;refine bF (p:=bo) (d:=gI p m t y n) qM (pt_p p m t y n) fun a1=>aK (p:=a1) (d:=V p) qM (jF _) fun y5=>bF (p:=bo) (d:=gI p m t y n) qM (pt_m p m t y n) fun a1=>aK (p:=a1) (d:=J m) qM (aR _) fun y6=>bF (p:=bo) (d:=gI p m t y n) qM (pt_t p m t y n) fun a1=>aK (p:=a1) (d:=J t) qM (aR _) fun y7=>bF (p:=bo) (d:=gI p m t y n) qM (pt_y p m t y n) fun a1=>aK (p:=a1) (d:=J y) qM (aR _) fun y8=>bF (p:=bo) (d:=gI p m t y n) qM (pt_n p m t y n) fun a1=>bI (p:=a1) qM<|cF (hsv y5 y6 y7 y8) ?_;rintro _ _ _ ⟨rfl,q2,rfl,rfl⟩;refine cH (exallT q1 q2 _ _ rfl)<|ne_bool rfl<|bY rfl (fun h=>h rfl)<|aK (p:=bq) (d:=gI p m t y n) qM (oX _ _ _ _ _) fun y17=>aK (p:=bo) (d:=gI p m t y n) qM (oX _ _ _ _ _) fun y18=>cH (zY y17 y18 p m t y n)<|bF (p:=bq) (d:=gI p m t y n) qM (pt_p p m t y n) fun a1=>aK (p:=a1) (d:=V p) qM (jF _) fun y9=>bF (p:=bq) (d:=gI p m t y n) qM (pt_m p m t y n) fun a1=>aK (p:=a1) (d:=J m) qM (aR _) fun y10=>bF (p:=bq) (d:=gI p m t y n) qM (pt_t p m t y n) fun a1=>aK (p:=a1) (d:=J t) qM (aR _) fun y11=>bF (p:=bq) (d:=gI p m t y n) qM (pt_y p m t y n) fun a1=>aK (p:=a1) (d:=J y) qM (aR _) fun y12=>bF (p:=bq) (d:=gI p m t y n) qM (pt_n p m t y n) fun a1=>bI (p:=a1) qM<|cF (hmx y9 y10 y11 y12) ?_;rintro _ _ _ ⟨rfl,m1,rfl,rfl⟩;refine cI rfl qE<|cI rfl rfl<|aT (v:=q1) (n:=0) qM fun _=>cI rfl rfl<|fin ⟨rfl,rfl,rfl⟩ (aH _ _)
  obtain⟨d,k,hnk,hl⟩:=lil_of hp hm ht hy (hb rfl) hok;have hmat:=hl.mat;rw[←hnk]at hmat;rw[hmat]at hmx;clear hmat;have h9:=hl.len;have hsv:=fun z1 z2 z3 z4=>yK z1 z2 z3 z4 p m t y d k hf hm hm2 ht ht2 hy hy2 hl;rw[←hnk]at hsv;refine cF (hsv y1 y2 y3 y4) ?_;rintro _ _ _ ⟨rfl,q1,L,dec,rfl,hS,rfl⟩;refine bF (p:=bo) (d:=gI p m t y n) qM (pt_p p m t y n) fun a1=>aK (p:=a1) (d:=V p) qM (jF _) fun y5=>bF (p:=bo) (d:=gI p m t y n) qM (pt_m p m t y n) fun a1=>aK (p:=a1) (d:=J m) qM (aR _) fun y6=>bF (p:=bo) (d:=gI p m t y n) qM (pt_t p m t y n) fun a1=>aK (p:=a1) (d:=J t) qM (aR _) fun y7=>bF (p:=bo) (d:=gI p m t y n) qM (pt_y p m t y n) fun a1=>aK (p:=a1) (d:=J y) qM (aR _) fun y8=>bF (p:=bo) (d:=gI p m t y n) qM (pt_n p m t y n) fun a1=>bI (p:=a1) qM<|cF (hsv y5 y6 y7 y8) ?_;rintro _ _ _ ⟨rfl,q2,L',dec',rfl,hS',rfl⟩;obtain⟨hLL,hdd'⟩:=hS.same hS' hl;subst hLL hdd';refine cH (exallT q1 q2 _ _ rfl)<|ne_bool rfl<|bY rfl (fun h=>h rfl)<|aK (p:=bq) (d:=gI p m t y n) qM (oX _ _ _ _ _) fun y17=>aK (p:=bo) (d:=gI p m t y n) qM (oX _ _ _ _ _) fun y18=>cH (zY y17 y18 p m t y n) ?_;have hdd:=fun z=>fO z p (hf.mono qE);have hsh:=wG ((dg (vv p):Nat)-1:Int) n (by simp only[inK];have:=cA (vv p);rw[cB]at this;omega) hn;have hsd:=sh_deg hl;rw[←hnk]at hsd;rw[hsd]at hsh;clear hsd;have hrd:∀y1,aAb 30 [y1] [(y1,wd (lA (vv p) (jv m) (jv t) (jv y) d k))] (fun r os fs=>os=[]∧∃q w,r=.tuple #[q,w,.int .i64 0]∧fs=[(q,wd (lR (vv p) (jv m) (jv t) (jv y) d k)),(w,wd (M2 (lW (vv p) (jv m) (jv t) (jv y) d k)))]):=fun y1=>by have:=lReduceT y1 (lW (vv p) (jv m) (jv t) (jv y) d k) 17 hl.fits qE (by rw[rX];omega) (by rw[hl.wrow0];omega) (by rw[rX];exact(lK_le h9).2);rw[hl.red]at this;exact this
  have h22:=two_rows hl;have hRl:=hl.rlen;have hgr:=fun i (hi:i<(shp d k).length) z1 z2 z3 z4=>lil_grid hl ht ht2 hy hy2 (hl.rrow hi) (hl.rsz hi) z1 z2 z3 z4;have l0:=lil_gridLg hl (hl.rsz (i:=0) qN);have l1:=lil_gridLg hl (hl.rsz (i:=1) qN);have hel:=fun y1 y2=>xgElim y1 y2 l0 l1 qE qE qE qE (by unfold pdB pdk;omega);have hsz:=(l0.el l1 qE).sz;have hde:=fun y1=>fO y1 ((gel (iF (shp d k) (eF (jv t)) (eF (jv y)) ((lR (vv p) (jv m) (jv t) (jv y) d k).getD 0 [])) (iF (shp d k) (eF (jv t)) (eF (jv y)) ((lR (vv p) (jv m) (jv t) (jv y) d k).getD 1 []))).map cn) (hsz.fit.mono (by unfold pdk;omega));rw[dX]at hde;have hst:=fun i (hi:i<(shp d k).length) z1 z2=>rShort17_meets z1 z2 ((lR (vv p) (jv m) (jv t) (jv y) d k).getD i []) m k 4000 1 (by rw[hl.rrow hi];omega) (hl.rsz hi) qE hm hm2 qE (by have:=hl.n2;omega);rw[←hnk]at hst;have hno:=fun g=>hS.und (lF_no (P:=vv p) (m:=jv m) (t:=jv t) (y:=jv y) (d:=d) (n:=k) g);have hyes:lV ((lR (vv p) (jv m) (jv t) (jv y) d k).getD 0 [])<jv m^k∧lV ((lR (vv p) (jv m) (jv t) (jv y) d k).getD 1 [])<jv m^k∧0<dg (gel (iF (shp d k) (eF (jv t)) (eF (jv y)) ((lR (vv p) (jv m) (jv t) (jv y) d k).getD 0 [])) (iF (shp d k) (eF (jv t)) (eF (jv y)) ((lR (vv p) (jv m) (jv t) (jv y) d k).getD 1 []))) →
    dec=true∧∀z1 z2 z3 z4 z5,aAb 34 [z1,z2,z3,z4,z5] [(z1,vd (gel (iF (shp d k) (eF (jv t)) (eF (jv y)) ((lR (vv p) (jv m) (jv t) (jv y) d k).getD 0 [])) (iF (shp d k) (eF (jv t)) (eF (jv y)) ((lR (vv p) (jv m) (jv t) (jv y) d k).getD 1 [])))),(z2,V p),(z3,J m),(z4,J t),(z5,J y)] (aW (vd L)):=fun g=>by
   have hF:=lF_yes (P:=vv p) (m:=jv m) (t:=jv t) (y:=jv y) (d:=d) (n:=k) g;have hF2:(lF (vv p) (jv m) (jv t) (jv y) d k).2=true:=by rw[hF]
   have hfs:=hl.fsz hF2;obtain⟨h1,O,e,h2,h3⟩:=hS.ok hF2;rw[hF]at hfs h2 h3;dsimp only at hfs h2 h3;obtain⟨hfs1,hfs2,_⟩:=hfs;refine⟨h1,fun z1 z2 z3 z4 z5=>?_⟩;have:=rRoots17_meets z1 z2 z3 z4 z5 _ p m t y O e hfs1 hfs2 g.2.2 hf qN hm hm2 ht ht2 hy hy2 hl.pos.1 hl.pos.2.1 hl.pos.2.2 h2;rw[h3];exact this
  clear hl hb hok hsv hS hS' hsz l0 l1;generalize gel (iF (shp d k) (eF (jv t)) (eF (jv y)) ((lR (vv p) (jv m) (jv t) (jv y) d k).getD 0 [])) (iF (shp d k) (eF (jv t)) (eF (jv y)) ((lR (vv p) (jv m) (jv t) (jv y) d k).getD 1 []))=E at *;generalize lA (vv p) (jv m) (jv t) (jv y) d k=A at *;generalize lR (vv p) (jv m) (jv t) (jv y) d k=R at *;generalize M2 _=M2' at *;generalize shp d k=S at *;have hg0:=hgr 0 qN;have hg1:=hgr 1 qN;have hs0:=hst 0 qN;have hs1:=hst 1 qN;clear hgr hst;generalize iF S (eF (jv t)) (eF (jv y)) (R.getD 0 [])=G0 at *;generalize iF S (eF (jv t)) (eF (jv y)) (R.getD 1 [])=G1 at *;generalize jv m^k=M at *;refine bF (p:=bq) (d:=gI p m t y n) qM (pt_p p m t y n) fun a1=>aK (p:=a1) (d:=V p) qM (jF _) fun y9=>bF (p:=bq) (d:=gI p m t y n) qM (pt_m p m t y n) fun a1=>aK (p:=a1) (d:=J m) qM (aR _) fun y10=>bF (p:=bq) (d:=gI p m t y n) qM (pt_t p m t y n) fun a1=>aK (p:=a1) (d:=J t) qM (aR _) fun y11=>bF (p:=bq) (d:=gI p m t y n) qM (pt_y p m t y n) fun a1=>aK (p:=a1) (d:=J y) qM (aR _) fun y12=>bF (p:=bq) (d:=gI p m t y n) qM (pt_n p m t y n) fun a1=>bI (p:=a1) qM<|cF (hmx y9 y10 y11 y12) ?_;rintro _ _ _ ⟨rfl,m1,rfl,rfl⟩;refine bY rfl (fun h=>h rfl)<|aY [0,1,3,4,2,5,6,7,8,9,10] [0,1,2,3,4,5,6,7,9,8,10] qK qK<|bF (p:=bq) (d:=gI p m t y n) qM (pt_p p m t y n) fun a1=>aK (p:=a1) (d:=V p) qM (jF _) fun w1=>bF (p:=bq) (d:=gI p m t y n) qM (pt_n p m t y n) fun a1=>bI (p:=a1) qM<|cH (hdd w1)<|cF (hsh) ?_;rintro _ _ _ ⟨rfl,s1,rfl,rfl⟩;refine cF (hrd m1) ?_;rintro _ _ _ ⟨rfl,r1,r2,rfl,rfl⟩;refine bY rfl (fun h=>h rfl)<|aT (v:=r1) (n:=(R.map (·.map cn)).length) qM fun _=>bY rfl (by simp only[aBV];omega)<|aY [0,1,2,3,4,5,6,7,8,9] [0,1,2,3,4,5,6,7,8,9] qK qK<|nL (v:=r1) qM 0 rfl qN fun a1=>aK (d:=vd (R.getD 0 [])) qM (j8 _) fun w2=>bF (p:=bq) (d:=gI p m t y n) qM (pt_t p m t y n) fun a1=>aK (p:=a1) (d:=J t) qM (aR _) fun w3=>bF (p:=bq) (d:=gI p m t y n) qM (pt_y p m t y n) fun a1=>aK (p:=a1) (d:=J y) qM (aR _) fun w4=>cG (hg0 w2 s1 w3 w4) fun g0=>aY [0,1,2,3,4,5,6,7,8,9] [0,1,2,3,4,5,6,7,8,9] qK qK<|nL (v:=r1) qM 1 rfl qN fun a1=>aK (d:=vd (R.getD 1 [])) qM (j8 _) fun w5=>bF (p:=bq) (d:=gI p m t y n) qM (pt_t p m t y n) fun a1=>aK (p:=a1) (d:=J t) qM (aR _) fun w6=>bF (p:=bq) (d:=gI p m t y n) qM (pt_y p m t y n) fun a1=>aK (p:=a1) (d:=J y) qM (aR _) fun w7=>cG (hg1 w5 s1 w6 w7) fun g1=>cG (hel g0 g1) fun f1=>aY [0,1,2,3,4,5,6,7,8,9,10,11,12,13,14,15,16,17,18,19,20,21,22,23,24] [0,1,2,3,4,5,6,7,8,9,10,11,12,13,14,15,16,17,18,19,20,21,22,23,24] qK qK<|nL (v:=r1) qM 0 rfl qN fun a1=>aK (d:=vd (R.getD 0 [])) qM (j8 _) fun w8=>bF (p:=bq) (d:=gI p m t y n) qM (pt_m p m t y n) fun a1=>aK (p:=a1) (d:=J m) qM (aR _) fun w9=>bF (p:=bq) (d:=gI p m t y n) qM (pt_n p m t y n) fun a1=>bI (p:=a1) qM<|cH (hs0 w8 w9) ?_
  by_cases k0:lV (R.getD 0 [])<M
  case neg =>
   rw[aCg k0];obtain⟨rfl,rfl⟩:=hno fun g=>k0 g.1;refine cI rfl rfl<|aT (v:=q1) (n:=0) qM fun _=>cI rfl rfl<|fin ⟨rfl,rfl,rfl⟩ (aH _ _)
  rw[aCn k0];refine nL (v:=r1) qM 1 rfl qN fun a1=>aK (d:=vd (R.getD 1 [])) qM (j8 _) fun w10=>bF (p:=bq) (d:=gI p m t y n) qM (pt_m p m t y n) fun a1=>aK (p:=a1) (d:=J m) qM (aR _) fun w11=>bF (p:=bq) (d:=gI p m t y n) qM (pt_n p m t y n) fun a1=>bI (p:=a1) qM<|cH (hs1 w10 w11) ?_
  by_cases k1:lV (R.getD 1 [])<M
  case neg =>
   rw[aCg k1];obtain⟨rfl,rfl⟩:=hno fun g=>k1 g.2.1;refine cI rfl rfl<|aT (v:=q1) (n:=0) qM fun _=>cI rfl rfl<|fin ⟨rfl,rfl,rfl⟩ (aH _ _)
  rw[aCn k1];refine cH (hde f1)<|aE _ rfl (fun hlt=>?_) (fun hlt=>?_)
  ·obtain⟨rfl,rfl⟩:=hno fun g=>by have:=g.2.2;omega
   refine cI rfl rfl<|aT (v:=q1) (n:=0) qM fun _=>cI rfl rfl<|fin ⟨rfl,rfl,rfl⟩ (aH _ _)
  ·obtain⟨rfl,hrt⟩:=hyes ⟨k0,k1,qN⟩;refine cI rfl rfl<|bF (p:=bq) (d:=gI p m t y n) qM (pt_p p m t y n) fun a1=>aK (p:=a1) (d:=V p) qM (jF _) fun x1=>bF (p:=bq) (d:=gI p m t y n) qM (pt_m p m t y n) fun a1=>aK (p:=a1) (d:=J m) qM (aR _) fun x2=>bF (p:=bq) (d:=gI p m t y n) qM (pt_t p m t y n) fun a1=>aK (p:=a1) (d:=J t) qM (aR _) fun x3=>bF (p:=bq) (d:=gI p m t y n) qM (pt_y p m t y n) fun a1=>aK (p:=a1) (d:=J y) qM (aR _) fun x4=>cG (hrt f1 x1 x2 x3 x4) fun x5=>cH (exallT q1 x5 _ _ rfl)<|fin ⟨rfl,rfl,rfl⟩ (aH _ _)
open Go.ChangeShapes Go.WideShapes Go.ChangeAt Go.RowKit
open Go.Joins (open_agg2)
set_option maxRecDepth 100000 in
theorem xD(os:Os)(started:os.Started)(H:Type)(enc:TypeId×Value→H):ReturnsInHanded {} Tryz.checked os 5 .any (Rows.slzSolvesSpec.pre6 enc Tryz.prog Tryz.f5 Rows.slzSolvesRow.domain false) (Rows.slzSolvesSpec.post enc Tryz.prog Tryz.f5 false true false false):=by
 refine returnsInHanded_of_change (C:=Tryz.checked) own0 started qK Tryz.func5
  (ChangeSpec.witness6 (enc:=enc) (C:=Tryz.checked) false ⟨#[], #[.agg #[.slice none 0 0,.bool false,.slice none 0 0,.bool false,.slice none 0 0,.bool false,.slice none 0 0,.int .i64 0]],[]⟩ 8 qK qK qK qK) ?_
 intro Wd base args ds gs before hval0 hW hcnd _;have aBo:∀(j:Nat) t v,Tryz.f5.params[j]? = some t→args[j]? = some v→Value.okWide Tryz.prog Wd .any base t v:=hval0;have hW':=hW;obtain⟨p,q,hA0,hV,rfl,hfz,hnd⟩:=hW;have hA:DataW.TrodAll enc Tryz.prog Wd 0 (fun _=>true) true Tryz.f5.params.toList args.toList ds p:=hA0;rw[Tryz.params5]at hA aBo;obtain⟨v0,vs0,d0,ds0,p0,q0,aBy,rfl,rfl,h0,r0⟩:=trodAll_cons hA;obtain⟨rfl,rfl,rfl⟩:=trodAll_nil r0;obtain rfl:args = #[v0]:=by cases args;simp_all
 obtain⟨rfl,rfl⟩:=trodVars_none hV;have k0:=h0;have lt0:∀x∈p0,x.block<Wd.heap.size:=by obtain⟨m,hm⟩:=k0;exact DataW.trod_lt m _ _ _ hm
 obtain⟨aP0,aM0,aT0,aY0,aN0,⟨lP0,lM0,lT0,lY0,lN0⟩,rd0⟩:=rd_ask (aBo 0 28 v0 rfl rfl) h0;clear hA0 hval0;refine(calls_of_meets (w:=Wd) (solves7_meets v0 aP0 aM0 aT0 aY0 aN0 lP0 lM0 lT0 lY0 lN0) ?_).mono fun e W2 ⟨he,bel⟩=>?_
 ·intro F hF;simp only[aB9,aFr,or_false]at hF;subst hF;exact rd0
 subst he;exact⟨_,rfl,_,_,_,[],_,[],hW',trodAll_mk1 (shut_bool Tryz.underlying4 _),(trodAll_cons_mk (Below.trod laid0 qK (of_decide_eq_true qK) k0 bel lt0) trodAll_mk0),rfl,bel.frame _,fun h=>by cases h⟩
theorem slzSolves_holds:Rows.SlzSolvesSaid :=OpenClaim.holds_of_wide 5 Tryz.f5 rfl rfl rfl rfl rfl rfl rfl ⟨rfl,rfl,rfl,rfl,rfl⟩ rfl rfl rfl rfl rfl qK Tryz.func5 qK
  (of_decide_eq_true qK) (by unfold Func.isWrapper;first|(rw[aBX (by decide +kernel)];kernel_rfl)|(rw[aBU (by decide +kernel)];exact⟨rfl,rfl⟩))
  (fun os started H enc _=>xD os started H enc)
#print axioms slzSolves_holds
end Go.Proofs.YtjebljkoiaojaaaGreat
