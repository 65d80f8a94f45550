/- The law SlzRight is true of each input, and changes none. No condition. -/
import Derived.Test.YtjebljkoiaojaaaGreatM5
import Derived.Test.YtjebljkoiaojaaaGreatRows
import Derived.OpenShut
import Derived.Below
import Derived.Lib.SmallJoins
set_option linter.unusedVariables false
set_option linter.unusedSimpArgs false
namespace Go.Proofs.YtjebljkoiaojaaaGreat
open Go.RowKit
theorem near_wit {v m y:Int} (hm:1≤m) (h:near v m y=true):∃ u:Int,(u.natAbs:Int)≤y∧m ∣ v - u:=by
 have h1:=Int.emod_nonneg v (show m≠0 by omega)
 have h2:=Int.emod_lt_of_pos v (show 0<m by omega)
 have h3:=Int.emod_add_mul_ediv v m
 simp only [near,Bool.or_eq_true,decide_eq_true_eq] at h
 rcases h with g | g
 ·exact ⟨v%m,by omega,⟨v/m,by omega⟩⟩
 ·refine ⟨v%m - m,by omega,⟨v/m+1,?_⟩⟩
  rw [Int.mul_add,Int.mul_one]; omega
theorem lst_rise (t:Int):∀ n:Nat,Rise (lst n fun i=>(i:Int) - t)
 | 0=>trivial
 | n+1=>by
  rw [uI]
  refine (lst_rise t n).snoc fun x hx=>?_
  unfold lst at hx
  obtain ⟨i,hi,rfl⟩:=List.mem_map.1 hx
  have:=List.mem_range.1 hi
  omega
theorem allL_rise (P:List Int) (m t y:Int) (n:Nat):Rise (allL P m t y n):=(lst_rise t n).filter _
theorem allL_mem {P:List Int} {m t y:Int} {n:Nat} {x:Int}:x∈allL P m t y n↔(-t≤x∧x<n - t)∧near (pev P x) m y=true:=by
 unfold allL lst
 rw [List.mem_filter,List.mem_map]
 constructor
 ·rintro ⟨⟨i,hi,rfl⟩,h⟩
  have:=List.mem_range.1 hi
  exact ⟨⟨by omega,by omega⟩,h⟩
 ·rintro ⟨⟨h1,h2⟩,h⟩
  exact ⟨⟨(x+t).toNat,List.mem_range.2 qN,by omega⟩,h⟩
theorem SolveOk.all {P:List Int} {m t y:Int} {d n:Nat} {L:List Int} (h:SolveOk P m t y d n L true) (hl:Lil P m t y d n):L=allL P m t y (2*t.toNat+1):=by
 have ht:=hl.pos.2.1
 refine (h.rise hl).ext (allL_rise _ _ _ _ _) fun x=>?_
 rw [allL_mem]
 constructor
 ·intro hx
  obtain ⟨g1,g2,g3,_⟩:=h.mem hl hx
  exact ⟨⟨g1,by omega⟩,g3⟩
 ·rintro ⟨⟨g1,g2⟩,g3⟩
  have hF:(lF P m t y d n).2=true:=by
   cases hF:(lF P m t y d n).2
   ·have:=(h.und hF).2; simp at this
   ·rfl
  obtain ⟨_,_,hd,a1,a2,he⟩:=hl.fsz hF
  obtain ⟨_,O,e,h1,rfl⟩:=h.ok hF
  obtain ⟨_,h3,_⟩:=in_all h1 hd qN
  refine List.mem_filter.2 ⟨(h3 x).2 ⟨g1,by omega,?_⟩,g3⟩
  obtain ⟨u,hu1,hu2⟩:=near_wit hl.pos.1 g3
  have h2:=two_rows hl
  have hx:(x.natAbs:Int)≤gI t:=Int.le_trans qN (lst1_le ht)
  have hy:(u.natAbs:Int)≤gI y:=Int.le_trans hu1 (lst1_le hl.pos.2.2)
  have e0:=(hl.comb (i:=0) qN).zero hl.sz a1 hx hy hu2
  have e1:=(hl.comb (i:=1) qN).zero hl.sz a2 hx hy hu2
  rw [he]
  exact gel_meet e0 e1 fun _ _=>by
   have:=(hl.comb (i:=0) qN).hasy hl.sz a1 (hl.rne qN)
   omega
theorem right7_meets (v:Value) (p:Row) (m t y:Bool×List Nat) (n:Int) (hp:limR p) (hm:Lim m.2) (ht:Lim t.2) (hy:Lim y.2) (hn:inK .i64 n) :
  Meets Tryz.prog 6 [v] [(v,iV p m t y n)] (fun r os fs=>os=[]∧fs=[]∧r=.bool true):=by
 refine mV Tryz.func6 ?_
 refine o8 (aB (v:=v) (d:=iV p m t y n) qM) fun bq=>?_
 refine cH (shown7_meets) ?_
 refine a0 [0,1,2,3,4,5,6,7,8,9] [0,1,2,3,4,5,6,7,8,9] qK qK ?_
 refine aW (p:=bq) (d:=iV p m t y n) qM (load_ask _ _ _ _ _) fun yf=>?_
 refine cF (little7_meets yf p m t y n hn hp) ?_
 rintro _ _ _ ⟨rfl,rfl,b,rfl,hb⟩
 cases b
 ·
  exact fin ⟨rfl,rfl,rfl⟩ (aI _ _)
 ·
  have hb':=hb rfl
  obtain ⟨h4,hm2,ht2,hy2,hn2,_⟩:=hb'
  have hf:=h4.fit hp
  have lp:=h4.1
  have z1:=(sm7 60 qE)
  have hc1:=fun y1 y2=>rCmpJ6 y1 y2 t (cn 60) 1 ht ht2 (aY _) z1.len qE
  rw [eL] at hc1
  refine bO (p:=bq) (d:=iV p m t y n) qM (pt_t p m t y n) fun a1=>?_
  refine aW (p:=a1) (d:=J t) qM (bE _) fun k1=>?_
  refine cG (dY 60 qE qE) fun k2=>?_
  refine cH (hc1 k1 k2) ?_
  refine aE _ rfl (fun h60=>?_) (fun h60=>?_)
  ·
   exact fin ⟨rfl,rfl,rfl⟩ (aI _ _)
  have ht60:jv t≤60:=by
   refine Classical.byContradiction fun g=>h60 ?_
   rw [dZ qN]; decide
  refine bO (p:=bq) (d:=iV p m t y n) qM (pt_p p m t y n) fun a1=>?_
  refine aW (p:=a1) (d:=V p) qM (fW _) fun y1=>?_
  refine bO (p:=bq) (d:=iV p m t y n) qM (pt_m p m t y n) fun a1=>?_
  refine aW (p:=a1) (d:=J m) qM (bE _) fun y2=>?_
  refine bO (p:=bq) (d:=iV p m t y n) qM (pt_t p m t y n) fun a1=>?_
  refine aW (p:=a1) (d:=J t) qM (bE _) fun y3=>?_
  refine bO (p:=bq) (d:=iV p m t y n) qM (pt_y p m t y n) fun a1=>?_
  refine aW (p:=a1) (d:=J y) qM (bE _) fun y4=>?_
  refine bO (p:=bq) (d:=iV p m t y n) qM (pt_n p m t y n) fun a1=>?_
  refine bI (p:=a1) qM ?_
  by_cases hok:qT (vv p) (jv m) (jv t) (jv y) n
  case neg =>
   refine cF (slzSolve_bad y1 y2 y3 y4 p m t y n 1 1 hf qN qE hm hm2 ht ht2 hy hy2 qE hn hok) ?_
   rintro _ _ _ ⟨rfl,q,rfl,rfl⟩
   refine cB rfl qE ?_
   refine bW rfl qE ?_
   refine cB rfl rfl ?_
   refine aR (v:=q) (n:=0) qM fun _=>?_
   refine cB rfl rfl ?_
   exact fin ⟨rfl,rfl,rfl⟩ (aI _ _)
  obtain ⟨d,k,hnk,hl⟩:=lil_of hp hm ht hy (hb rfl) hok
  have hso:=vB y1 y2 y3 y4 p m t y d k hf hm hm2 ht ht2 hy hy2 hl
  rw [← hnk] at hso
  refine cF hso ?_
  rintro _ _ _ ⟨rfl,q,L,dec,rfl,hS,rfl⟩
  refine bW rfl qE ?_
  cases dec
  ·have hL:L=[]:=hS.len.elim id fun h=>by simp at h
   subst hL
   refine cB rfl rfl ?_
   refine aR (v:=q) (n:=0) qM fun _=>?_
   refine cB rfl rfl ?_
   exact fin ⟨rfl,rfl,rfl⟩ (aI _ _)
  have hall:=hS.all hl
  have hm1:=hl.pos.1
  have ht0:=hl.pos.2.1
  have zt:=gJ ht ht2
  have zm:=gJ hm hm2
  clear hS hl hb hso hok hc1
  refine empty_L (size:=2) (e:=26) J z0 qE fun l0 hl0=>?_
  have hng:=fun z=>rNegJ z t ht qN
  refine bO (p:=bq) (d:=iV p m t y n) qM (pt_t p m t y n) fun a1=>?_
  refine aW (p:=a1) (d:=J t) qM (bE _) fun k3=>?_
  refine cG (hng k3) fun k4=>?_
  refine aK (d:=I false []) fun b0 hb0=>?_
  refine aF (d:=zd (-jv t)) 0 rfl hb0 rfl qK (aB (v:=k4) qM) ?_
  refine aS (X:=Nat×Value×Value) (fun x=>([(1,bq),(3,.bool true),(4,q),(7,x.2.1),(8,x.2.2)],[bL x.2.2 2 1 (fun _=>zd ((x.1:Int) - jv t)),jY 2 J z0 x.2.1 ((allL (vv p) (jv m) (jv t) (jv y) x.1).map cn)],[(q,vd L),(bq,.ptr (iV p m t y n))]))
   (fun x=>x.1≤2*(jv t).toNat+1∧isSl x.2.1∧lJ x.2.2) (fun x=>2*(jv t).toNat+1 - x.1) rfl ?_ ?_
  ·refine aV (0,l0,b0) ⟨Nat.zero_le _,hl0,hb0⟩ trivial qF ?_
   simp only [Int.natCast_zero,Int.zero_sub]
   exact aC (bB rfl) (aA qS)
  rintro ⟨i,lv,b⟩ ⟨hi,hlv,hb⟩
  simp only at hi hlv hb ⊢
  have hsucc:=allL_succ (vv p) (jv m) (jv t) (jv y) i
  have hlen:=allL_len (vv p) (jv m) (jv t) (jv y) i
  have hX1:((i+1:Nat):Int) - jv t=(i:Int) - jv t+1:=by omega
  have hXt:(i:Int) - jv t≤jv t↔i<2*(jv t).toNat+1:=by omega
  have hend:i=2*(jv t).toNat+1→L=allL (vv p) (jv m) (jv t) (jv y) i:=fun h=>by rw [h]; exact hall
  have zx:sz ((i:Int) - jv t) 1:=by unfold sz; omega
  generalize allL (vv p) (jv m) (jv t) (jv y) i=AL at *
  generalize (i:Int) - jv t=X at *
  have hcx:=fun z1 z2=>rCmpJ6 z1 z2 (cn X) t 1 (aY _) zx.len ht ht2 qE
  rw [eL] at hcx
  refine aD (d:=zd X) 0 rfl hb rfl (aL _ _) fun c1=>?_
  refine bO (p:=bq) (d:=iV p m t y n) qM (pt_t p m t y n) fun a1=>?_
  refine aW (p:=a1) (d:=J t) qM (bE _) fun c2=>?_
  refine cH (hcx c1 c2) ?_
  refine aE _ rfl (fun hle=>?_) (fun hle=>?_)
  ·have hlt:i<2*(jv t).toNat+1:=hXt.1 (by
    refine Int.not_lt.1 fun g=>?_
    rw [dZ qN] at hle
    exact absurd hle qE)
   have hv:=fun z1 z2=>rValueJ z1 z2 p (cn X) 1 1 hf (aY _) zx.len qN qN
   rw [eL] at hv
   have zv:sz (pev (vv p) X) 20:=(ev_sz hf.szR zx).mono (by rw [cX]; omega)
   generalize pev (vv p) X=Z at *
   have hdm:∀ z1 z2,Meets Tryz.prog 37 [z1,z2] [(z1,zd Z),(z2,J m)] (fun r os fs=>os=[]∧∃ q s,r=.tuple #[q,s,.bool true]∧fs=[(q,zd (Z/jv m)),(s,zd (Z%jv m))]):=fun z1 z2=>by
    have:=rZDivMod_meets z1 z2 (decide (Z<0)) m.1 (bR Z.natAbs) m.2 (aY _) hm (Nat.le_trans zv.len qE) qN (by show jv m≠0; omega)
    rw [jJ] at this
    exact this
   have hr:sz (Z%jv m) 1:=by
    have h1:=Int.emod_nonneg Z (show jv m≠0 by omega)
    have h2:=Int.emod_lt_of_pos Z (show 0<jv m by omega)
    unfold sz at zm ⊢
    omega
   have hne:near Z (jv m) (jv y)=(decide (Z%jv m≤jv y)||decide (jv m - Z%jv m≤jv y)):=rfl
   have hadd:=fun z1 z2=>rAddZ z1 z2 X 1 1 zx (sm7 1 qE) qE
   refine kC (X:=Value) (fun b2=>([(1,bq),(3,.bool true),(4,q),(7,lv),(8,b),(10,b2)],[bL b2 2 1 (fun _=>zd (Z%jv m)),bL b 2 1 (fun _=>zd X),jY 2 J z0 lv (AL.map cn)],[(q,vd L),(bq,.ptr (iV p m t y n))])) lJ ?_ ?_
   ·
    refine fC [0,1,2,3,4,5,6,7,8,11,12,13,9,14,10,15] qK ?_
    refine a8 3 11 qK qK qK ?_ ?_
    ·refine a8 3 12 qK qK qK ?_ ?_
     ·refine a8 6 11 qK qK qK ?_ ?_
      ·refine a8 6 12 qK qK qK ?_ ?_
       ·refine a8 11 12 qK qK qK ?_ ?_
        ·refine cY [0,1,2,4,5,3,6,7,8,9,10,11,12,13,14,15] qK qK ?_
         refine bO (p:=bq) (d:=iV p m t y n) qM (pt_p p m t y n) fun a1=>?_
         refine aW (p:=a1) (d:=V p) qM (fW _) fun x1=>?_
         refine aD (d:=zd X) 0 rfl hb rfl (aL _ _) fun x2=>?_
         refine bO (p:=bq) (d:=iV p m t y n) qM (pt_m p m t y n) fun a1=>?_
         refine aW (p:=a1) (d:=J m) qM (bE _) fun x4=>?_
         refine cG (hv x1 x2) fun x5=>?_
         refine cF (hdm x5 x4) ?_
         rintro _ _ _ ⟨rfl,g3,g4,rfl,rfl⟩
         refine aK (d:=I false []) fun b1 hb1=>?_
         refine aK (d:=I false []) fun b2 hb2=>?_
         refine aF (d:=zd (Z/jv m)) 1 rfl hb1 rfl qK (aB (v:=g3) qM) ?_
         refine aF (d:=zd (Z%jv m)) 0 rfl hb2 rfl qK (aB (v:=g4) qM) ?_
         exact aV b2 hb2 trivial qF (aC (aU 1 _ _) (aC (bB rfl) (aA qS)))
        ·refine cY [0,1,2,4,5,3,6,7,8,9,10,12,11,13,14,15] qK qK ?_
         refine bO (p:=bq) (d:=iV p m t y n) qM (pt_p p m t y n) fun a1=>?_
         refine aW (p:=a1) (d:=V p) qM (fW _) fun x1=>?_
         refine aD (d:=zd X) 0 rfl hb rfl (aL _ _) fun x2=>?_
         refine bO (p:=bq) (d:=iV p m t y n) qM (pt_m p m t y n) fun a1=>?_
         refine aW (p:=a1) (d:=J m) qM (bE _) fun x4=>?_
         refine cG (hv x1 x2) fun x5=>?_
         refine cF (hdm x5 x4) ?_
         rintro _ _ _ ⟨rfl,g3,g4,rfl,rfl⟩
         refine aK (d:=I false []) fun b2 hb2=>?_
         refine aK (d:=I false []) fun b1 hb1=>?_
         refine aF (d:=zd (Z/jv m)) 0 rfl hb1 rfl qK (aB (v:=g3) qM) ?_
         refine aF (d:=zd (Z%jv m)) 1 rfl hb2 rfl qK (aB (v:=g4) qM) ?_
         exact aV b2 hb2 trivial qF (dS (aC (bB rfl) (aA qS)))
       ·refine cY [0,1,2,4,5,3,12,6,7,8,9,10,11,13,14,15] qK qK ?_
        refine bO (p:=bq) (d:=iV p m t y n) qM (pt_p p m t y n) fun a1=>?_
        refine aW (p:=a1) (d:=V p) qM (fW _) fun x1=>?_
        refine aD (d:=zd X) 0 rfl hb rfl (aL _ _) fun x2=>?_
        refine bO (p:=bq) (d:=iV p m t y n) qM (pt_m p m t y n) fun a1=>?_
        refine aW (p:=a1) (d:=J m) qM (bE _) fun x4=>?_
        refine cG (hv x1 x2) fun x5=>?_
        refine aK (d:=I false []) fun b2 hb2=>?_
        refine cF (hdm x5 x4) ?_
        rintro _ _ _ ⟨rfl,g3,g4,rfl,rfl⟩
        refine aK (d:=I false []) fun b1 hb1=>?_
        refine aF (d:=zd (Z/jv m)) 0 rfl hb1 rfl qK (aB (v:=g3) qM) ?_
        refine aF (d:=zd (Z%jv m)) 1 rfl hb2 rfl qK (aB (v:=g4) qM) ?_
        exact aV b2 hb2 trivial qF (dS (aC (bB rfl) (aA qS)))
      ·refine a8 6 12 qK qK qK ?_ ?_
       ·refine cY [0,1,2,4,5,3,11,6,7,8,9,10,12,13,14,15] qK qK ?_
        refine bO (p:=bq) (d:=iV p m t y n) qM (pt_p p m t y n) fun a1=>?_
        refine aW (p:=a1) (d:=V p) qM (fW _) fun x1=>?_
        refine aD (d:=zd X) 0 rfl hb rfl (aL _ _) fun x2=>?_
        refine bO (p:=bq) (d:=iV p m t y n) qM (pt_m p m t y n) fun a1=>?_
        refine aW (p:=a1) (d:=J m) qM (bE _) fun x4=>?_
        refine cG (hv x1 x2) fun x5=>?_
        refine aK (d:=I false []) fun b1 hb1=>?_
        refine cF (hdm x5 x4) ?_
        rintro _ _ _ ⟨rfl,g3,g4,rfl,rfl⟩
        refine aK (d:=I false []) fun b2 hb2=>?_
        refine aF (d:=zd (Z/jv m)) 1 rfl hb1 rfl qK (aB (v:=g3) qM) ?_
        refine aF (d:=zd (Z%jv m)) 0 rfl hb2 rfl qK (aB (v:=g4) qM) ?_
        exact aV b2 hb2 trivial qF (aC (aU 1 _ _) (aC (bB rfl) (aA qS)))
       ·refine a8 11 12 qK qK qK ?_ ?_
        ·refine cY [0,1,2,4,5,3,11,12,6,7,8,9,10,13,14,15] qK qK ?_
         refine bO (p:=bq) (d:=iV p m t y n) qM (pt_p p m t y n) fun a1=>?_
         refine aW (p:=a1) (d:=V p) qM (fW _) fun x1=>?_
         refine aD (d:=zd X) 0 rfl hb rfl (aL _ _) fun x2=>?_
         refine bO (p:=bq) (d:=iV p m t y n) qM (pt_m p m t y n) fun a1=>?_
         refine aW (p:=a1) (d:=J m) qM (bE _) fun x4=>?_
         refine cG (hv x1 x2) fun x5=>?_
         refine aK (d:=I false []) fun b1 hb1=>?_
         refine aK (d:=I false []) fun b2 hb2=>?_
         refine cF (hdm x5 x4) ?_
         rintro _ _ _ ⟨rfl,g3,g4,rfl,rfl⟩
         refine aF (d:=zd (Z/jv m)) 1 rfl hb1 rfl qK (aB (v:=g3) qM) ?_
         refine aF (d:=zd (Z%jv m)) 0 rfl hb2 rfl qK (aB (v:=g4) qM) ?_
         exact aV b2 hb2 trivial qF (aC (aU 1 _ _) (aC (bB rfl) (aA qS)))
        ·refine cY [0,1,2,4,5,3,12,11,6,7,8,9,10,13,14,15] qK qK ?_
         refine bO (p:=bq) (d:=iV p m t y n) qM (pt_p p m t y n) fun a1=>?_
         refine aW (p:=a1) (d:=V p) qM (fW _) fun x1=>?_
         refine aD (d:=zd X) 0 rfl hb rfl (aL _ _) fun x2=>?_
         refine bO (p:=bq) (d:=iV p m t y n) qM (pt_m p m t y n) fun a1=>?_
         refine aW (p:=a1) (d:=J m) qM (bE _) fun x4=>?_
         refine cG (hv x1 x2) fun x5=>?_
         refine aK (d:=I false []) fun b2 hb2=>?_
         refine aK (d:=I false []) fun b1 hb1=>?_
         refine cF (hdm x5 x4) ?_
         rintro _ _ _ ⟨rfl,g3,g4,rfl,rfl⟩
         refine aF (d:=zd (Z/jv m)) 0 rfl hb1 rfl qK (aB (v:=g3) qM) ?_
         refine aF (d:=zd (Z%jv m)) 1 rfl hb2 rfl qK (aB (v:=g4) qM) ?_
         exact aV b2 hb2 trivial qF (dS (aC (bB rfl) (aA qS)))
     ·refine a8 6 11 qK qK qK ?_ ?_
      ·refine cY [0,1,2,4,5,12,3,6,7,8,9,10,11,13,14,15] qK qK ?_
       refine bO (p:=bq) (d:=iV p m t y n) qM (pt_p p m t y n) fun a1=>?_
       refine aW (p:=a1) (d:=V p) qM (fW _) fun x1=>?_
       refine aD (d:=zd X) 0 rfl hb rfl (aL _ _) fun x2=>?_
       refine bO (p:=bq) (d:=iV p m t y n) qM (pt_m p m t y n) fun a1=>?_
       refine aW (p:=a1) (d:=J m) qM (bE _) fun x4=>?_
       refine aK (d:=I false []) fun b2 hb2=>?_
       refine cG (hv x1 x2) fun x5=>?_
       refine cF (hdm x5 x4) ?_
       rintro _ _ _ ⟨rfl,g3,g4,rfl,rfl⟩
       refine aK (d:=I false []) fun b1 hb1=>?_
       refine aF (d:=zd (Z/jv m)) 0 rfl hb1 rfl qK (aB (v:=g3) qM) ?_
       refine aF (d:=zd (Z%jv m)) 1 rfl hb2 rfl qK (aB (v:=g4) qM) ?_
       exact aV b2 hb2 trivial qF (dS (aC (bB rfl) (aA qS)))
      ·refine cY [0,1,2,4,5,12,3,11,6,7,8,9,10,13,14,15] qK qK ?_
       refine bO (p:=bq) (d:=iV p m t y n) qM (pt_p p m t y n) fun a1=>?_
       refine aW (p:=a1) (d:=V p) qM (fW _) fun x1=>?_
       refine aD (d:=zd X) 0 rfl hb rfl (aL _ _) fun x2=>?_
       refine bO (p:=bq) (d:=iV p m t y n) qM (pt_m p m t y n) fun a1=>?_
       refine aW (p:=a1) (d:=J m) qM (bE _) fun x4=>?_
       refine aK (d:=I false []) fun b2 hb2=>?_
       refine cG (hv x1 x2) fun x5=>?_
       refine aK (d:=I false []) fun b1 hb1=>?_
       refine cF (hdm x5 x4) ?_
       rintro _ _ _ ⟨rfl,g3,g4,rfl,rfl⟩
       refine aF (d:=zd (Z/jv m)) 0 rfl hb1 rfl qK (aB (v:=g3) qM) ?_
       refine aF (d:=zd (Z%jv m)) 1 rfl hb2 rfl qK (aB (v:=g4) qM) ?_
       exact aV b2 hb2 trivial qF (dS (aC (bB rfl) (aA qS)))
    ·refine a8 3 12 qK qK qK ?_ ?_
     ·refine a8 6 12 qK qK qK ?_ ?_
      ·refine cY [0,1,2,4,5,11,3,6,7,8,9,10,12,13,14,15] qK qK ?_
       refine bO (p:=bq) (d:=iV p m t y n) qM (pt_p p m t y n) fun a1=>?_
       refine aW (p:=a1) (d:=V p) qM (fW _) fun x1=>?_
       refine aD (d:=zd X) 0 rfl hb rfl (aL _ _) fun x2=>?_
       refine bO (p:=bq) (d:=iV p m t y n) qM (pt_m p m t y n) fun a1=>?_
       refine aW (p:=a1) (d:=J m) qM (bE _) fun x4=>?_
       refine aK (d:=I false []) fun b1 hb1=>?_
       refine cG (hv x1 x2) fun x5=>?_
       refine cF (hdm x5 x4) ?_
       rintro _ _ _ ⟨rfl,g3,g4,rfl,rfl⟩
       refine aK (d:=I false []) fun b2 hb2=>?_
       refine aF (d:=zd (Z/jv m)) 1 rfl hb1 rfl qK (aB (v:=g3) qM) ?_
       refine aF (d:=zd (Z%jv m)) 0 rfl hb2 rfl qK (aB (v:=g4) qM) ?_
       exact aV b2 hb2 trivial qF (aC (aU 1 _ _) (aC (bB rfl) (aA qS)))
      ·refine cY [0,1,2,4,5,11,3,12,6,7,8,9,10,13,14,15] qK qK ?_
       refine bO (p:=bq) (d:=iV p m t y n) qM (pt_p p m t y n) fun a1=>?_
       refine aW (p:=a1) (d:=V p) qM (fW _) fun x1=>?_
       refine aD (d:=zd X) 0 rfl hb rfl (aL _ _) fun x2=>?_
       refine bO (p:=bq) (d:=iV p m t y n) qM (pt_m p m t y n) fun a1=>?_
       refine aW (p:=a1) (d:=J m) qM (bE _) fun x4=>?_
       refine aK (d:=I false []) fun b1 hb1=>?_
       refine cG (hv x1 x2) fun x5=>?_
       refine aK (d:=I false []) fun b2 hb2=>?_
       refine cF (hdm x5 x4) ?_
       rintro _ _ _ ⟨rfl,g3,g4,rfl,rfl⟩
       refine aF (d:=zd (Z/jv m)) 1 rfl hb1 rfl qK (aB (v:=g3) qM) ?_
       refine aF (d:=zd (Z%jv m)) 0 rfl hb2 rfl qK (aB (v:=g4) qM) ?_
       exact aV b2 hb2 trivial qF (aC (aU 1 _ _) (aC (bB rfl) (aA qS)))
     ·refine a8 11 12 qK qK qK ?_ ?_
      ·refine cY [0,1,2,4,5,11,12,3,6,7,8,9,10,13,14,15] qK qK ?_
       refine bO (p:=bq) (d:=iV p m t y n) qM (pt_p p m t y n) fun a1=>?_
       refine aW (p:=a1) (d:=V p) qM (fW _) fun x1=>?_
       refine aD (d:=zd X) 0 rfl hb rfl (aL _ _) fun x2=>?_
       refine bO (p:=bq) (d:=iV p m t y n) qM (pt_m p m t y n) fun a1=>?_
       refine aW (p:=a1) (d:=J m) qM (bE _) fun x4=>?_
       refine aK (d:=I false []) fun b1 hb1=>?_
       refine aK (d:=I false []) fun b2 hb2=>?_
       refine cG (hv x1 x2) fun x5=>?_
       refine cF (hdm x5 x4) ?_
       rintro _ _ _ ⟨rfl,g3,g4,rfl,rfl⟩
       refine aF (d:=zd (Z/jv m)) 1 rfl hb1 rfl qK (aB (v:=g3) qM) ?_
       refine aF (d:=zd (Z%jv m)) 0 rfl hb2 rfl qK (aB (v:=g4) qM) ?_
       exact aV b2 hb2 trivial qF (aC (aU 1 _ _) (aC (bB rfl) (aA qS)))
      ·refine cY [0,1,2,4,5,12,11,3,6,7,8,9,10,13,14,15] qK qK ?_
       refine bO (p:=bq) (d:=iV p m t y n) qM (pt_p p m t y n) fun a1=>?_
       refine aW (p:=a1) (d:=V p) qM (fW _) fun x1=>?_
       refine aD (d:=zd X) 0 rfl hb rfl (aL _ _) fun x2=>?_
       refine bO (p:=bq) (d:=iV p m t y n) qM (pt_m p m t y n) fun a1=>?_
       refine aW (p:=a1) (d:=J m) qM (bE _) fun x4=>?_
       refine aK (d:=I false []) fun b2 hb2=>?_
       refine aK (d:=I false []) fun b1 hb1=>?_
       refine cG (hv x1 x2) fun x5=>?_
       refine cF (hdm x5 x4) ?_
       rintro _ _ _ ⟨rfl,g3,g4,rfl,rfl⟩
       refine aF (d:=zd (Z/jv m)) 0 rfl hb1 rfl qK (aB (v:=g3) qM) ?_
       refine aF (d:=zd (Z%jv m)) 1 rfl hb2 rfl qK (aB (v:=g4) qM) ?_
       exact aV b2 hb2 trivial qF (dS (aC (bB rfl) (aA qS)))
   rintro b2 hb2
   simp only
   clear hv hdm
   have hc1:∀ z1 z2,Meets Tryz.prog 22 [z1,z2] [(z1,zd (Z%jv m)),(z2,J y)] (fun r os fs=>os=[]∧fs=[]∧r=.int .i64 (Z%jv m - jv y).sign):=fun z1 z2=>by
    have:=rCmpJ6 z1 z2 (cn (Z%jv m)) y 1 (aY _) hr.len hy hy2 qE
    rw [eL] at this
    exact this
   have hsb:∀ z1 z2,Meets Tryz.prog 39 [z1,z2] [(z1,J m),(z2,zd (Z%jv m))] (fun r os fs=>os=[]∧fs=[(r,zd (jv m - Z%jv m))]):=fun z1 z2=>by
    have:=pN z1 z2 m.1 (decide (Z%jv m<0)) m.2 (bR (Z%jv m).natAbs) hm (aY _) qN (Nat.le_trans hr.len qE)
    rw [jJ] at this
    exact this
   have hc2:∀ z1 z2,Meets Tryz.prog 22 [z1,z2] [(z1,zd (jv m - Z%jv m)),(z2,J y)] (fun r os fs=>os=[]∧fs=[]∧r=.int .i64 (jv m - Z%jv m - jv y).sign):=fun z1 z2=>by
    have:=rCmpJ6 z1 z2 (cn (jv m - Z%jv m)) y 2 (aY _) (kM zm hr).len hy qN qE
    rw [eL] at this
    exact this
   have sle:∀ a:Int,a.sign≤0↔a≤0:=fun a=>⟨fun h=>Int.not_lt.1 fun g=>by rw [dZ g] at h; omega,sgn_np⟩
   generalize Z%jv m=R at *
   refine a0 [0,1,2,3,4,5,6,7,8,10,11,9,12,13,14] [0,1,2,3,4,5,6,7,8,9,10,11,12,13,14] qK qK ?_
   refine aD (d:=zd R) 0 rfl hb2 rfl (aL _ _) fun w1=>?_
   refine bO (p:=bq) (d:=iV p m t y n) qM (pt_y p m t y n) fun a1=>?_
   refine aW (p:=a1) (d:=J y) qM (bE _) fun w2=>?_
   refine cH (hc1 w1 w2) ?_
   refine aE _ rfl (fun g1=>?_) (fun g1=>?_)
   ·have hn1:near Z (jv m) (jv y)=true:=by rw [hne,decide_eq_true (by have:=(sle _).1 g1; omega)]; rfl
    rw [if_pos hn1] at hsucc
    refine aD (d:=zd X) 1 rfl hb rfl (aL _ _) fun e1=>?_
    refine lS (size:=2) J z0 (cn X) qE (aB (v:=e1) (d:=zd X) qM) rfl fun l1=>?_
    refine f9 2 rfl hlv (a9 qM) (by simp only [List.length_map,List.length_cons,List.length_nil]; omega) (by simp only [List.length_map,List.length_cons,List.length_nil]; omega) fun lv2 hlv2=>?_
    refine aD (d:=zd X) 1 rfl hb rfl (aL _ _) fun s1=>?_
    refine aK (d:=I false []) fun bn hbn=>?_
    refine aF (d:=zd X) 0 rfl hbn rfl qK (aB (v:=s1) (d:=zd X) qM) ?_
    refine a0 [0,1,2,3] [0,1,2,3] qK qK ?_
    refine aD (d:=zd X) 0 rfl hbn rfl (aL _ _) fun s2=>?_
    refine cG (dY 1 qE qE) fun s3=>?_
    refine cG (hadd s2 s3) fun s4=>?_
    refine aF (d:=zd (X+1)) 0 rfl hbn rfl qK (aB (v:=s4) qM) ?_
    refine aV (i+1,lv2,bn) ⟨by simp only; omega,hlv2,hbn⟩ (by simp only; omega) qF ?_
    simp only [hsucc,hX1]
    simp only [List.map_append,List.map_cons,List.map_nil]
    exact aC (aU 2 _ _) (aC (aU 1 _ _) (aC (bB rfl) (aA qS)))
   ·
    refine bO (p:=bq) (d:=iV p m t y n) qM (pt_m p m t y n) fun a1=>?_
    refine aW (p:=a1) (d:=J m) qM (bE _) fun w3=>?_
    refine aD (d:=zd R) 0 rfl hb2 rfl (aL _ _) fun w4=>?_
    refine bO (p:=bq) (d:=iV p m t y n) qM (pt_y p m t y n) fun a1=>?_
    refine aW (p:=a1) (d:=J y) qM (bE _) fun w5=>?_
    refine cG (hsb w3 w4) fun w6=>?_
    refine cH (hc2 w6 w5) ?_
    refine aE _ rfl (fun g2=>?_) (fun g2=>?_)
    ·have hn1:near Z (jv m) (jv y)=true:=by rw [hne,decide_eq_true (p:=jv m - R≤jv y) (by have:=(sle _).1 g2; omega),Bool.or_true]
     rw [if_pos hn1] at hsucc
     refine aD (d:=zd X) 1 rfl hb rfl (aL _ _) fun e1=>?_
     refine lS (size:=2) J z0 (cn X) qE (aB (v:=e1) (d:=zd X) qM) rfl fun l1=>?_
     refine f9 2 rfl hlv (a9 qM) (by simp only [List.length_map,List.length_cons,List.length_nil]; omega) (by simp only [List.length_map,List.length_cons,List.length_nil]; omega) fun lv2 hlv2=>?_
     refine aD (d:=zd X) 1 rfl hb rfl (aL _ _) fun s1=>?_
     refine aK (d:=I false []) fun bn hbn=>?_
     refine aF (d:=zd X) 0 rfl hbn rfl qK (aB (v:=s1) (d:=zd X) qM) ?_
     refine a0 [0,1,2,3] [0,1,2,3] qK qK ?_
     refine aD (d:=zd X) 0 rfl hbn rfl (aL _ _) fun s2=>?_
     refine cG (dY 1 qE qE) fun s3=>?_
     refine cG (hadd s2 s3) fun s4=>?_
     refine aF (d:=zd (X+1)) 0 rfl hbn rfl qK (aB (v:=s4) qM) ?_
     refine aV (i+1,lv2,bn) ⟨by simp only; omega,hlv2,hbn⟩ (by simp only; omega) qF ?_
     simp only [hsucc,hX1]
     simp only [List.map_append,List.map_cons,List.map_nil]
     exact aC (aU 2 _ _) (aC (aU 1 _ _) (aC (bB rfl) (aA qS)))
    ·have hn1:near Z (jv m) (jv y)=false:=by rw [hne,decide_eq_false (by have:=mt (sle _).2 g1; omega),decide_eq_false (by have:=mt (sle _).2 g2; omega)]; rfl
     rw [if_neg (by rw [hn1]; simp)] at hsucc
     refine aD (d:=zd X) 1 rfl hb rfl (aL _ _) fun s1=>?_
     refine aK (d:=I false []) fun bn hbn=>?_
     refine aF (d:=zd X) 0 rfl hbn rfl qK (aB (v:=s1) (d:=zd X) qM) ?_
     refine a0 [0,1,2,3] [0,1,2,3] qK qK ?_
     refine aD (d:=zd X) 0 rfl hbn rfl (aL _ _) fun s2=>?_
     refine cG (dY 1 qE qE) fun s3=>?_
     refine cG (hadd s2 s3) fun s4=>?_
     refine aF (d:=zd (X+1)) 0 rfl hbn rfl qK (aB (v:=s4) qM) ?_
     refine aV (i+1,lv,bn) ⟨by simp only; omega,hlv,hbn⟩ (by simp only; omega) qF ?_
     simp only [hsucc,hX1]
     exact aC (aU 2 _ _) (aC (aU 1 _ _) (aC (bB rfl) (aA qS)))
  ·have hge:i=2*(jv t).toNat+1:=by
    have:¬ i<2*(jv t).toNat+1:=fun g=>hle (sgn_np (by have:=hXt.2 g; omega))
    omega
   have hLL:=hend hge
   subst hLL
   refine CallK.pre (Seals.L (f:=J) (z:=z0) 1 rfl hlv) ?_
   refine cH (exallT q lv _ _ rfl) ?_
   exact fin ⟨rfl,rfl,rfl⟩ (dS (aI _ _))
open Go.ChangeShapes Go.WideShapes Go.ChangeAt Go.RowKit
open Go.Joins (open_agg2)
set_option maxRecDepth 100000 in
theorem vC (os:Os) (started:os.Started) (H:Type) (enc:TypeId×Value→H) :
  ReturnsInHanded {} Tryz.checked os 6 .any (Rows.slzRightSpec.pre6 enc Tryz.prog Tryz.f6 Rows.slzRightRow.domain false) (Rows.slzRightSpec.post enc Tryz.prog Tryz.f6 false true false false):=by
 refine returnsInHanded_of_change (C:=Tryz.checked) own0 started qK Tryz.func6
  (ChangeSpec.witness6 (enc:=enc) (C:=Tryz.checked) false ⟨#[], #[.agg #[.slice none 0 0,.bool false,.slice none 0 0,.bool false,.slice none 0 0,.bool false,.slice none 0 0,.int .i64 0]],[]⟩ 8 qK qK qK qK) ?_
 intro Wd base args ds gs before hval0 hW hcnd _
 have hval:∀ (j:Nat) t v,Tryz.f6.params[j]? = some t→args[j]? = some v→Value.okWide Tryz.prog Wd .any base t v:=hval0
 have hW':=hW
 obtain ⟨p,q,hA0,hV,rfl,hfz,hnd⟩:=hW
 have hA:DataW.TrodAll enc Tryz.prog Wd 0 (fun _=>true) true Tryz.f6.params.toList args.toList ds p:=hA0
 rw [Tryz.params6] at hA hval
 obtain ⟨v0,vs0,d0,ds0,p0,q0,hargs,rfl,rfl,h0,r0⟩:=trodAll_cons hA
 obtain ⟨rfl,rfl,rfl⟩:=trodAll_nil r0
 obtain rfl:args = #[v0]:=by cases args; simp_all
 obtain ⟨rfl,rfl⟩:=trodVars_none hV
 have k0:=h0
 have lt0:∀ x∈p0,x.block<Wd.heap.size:=by obtain ⟨m,hm⟩:=k0; exact DataW.trod_lt m _ _ _ hm
 obtain ⟨aP0,aM0,aT0,aY0,aN0,⟨lP0,lM0,lT0,lY0,lN0⟩,rd0⟩:=rd_ask (hval 0 28 v0 rfl rfl) h0
 clear hA0 hval0
 refine (calls_of_meets (w:=Wd) (right7_meets v0 aP0 aM0 aT0 aY0 aN0 lP0 lM0 lT0 lY0 lN0) ?_).mono fun e W2 ⟨he,bel⟩=>?_
 ·intro F hF
  simp only [List.mem_cons,List.not_mem_nil,or_false] at hF
  subst hF; exact rd0
 subst he
 exact ⟨_,rfl,_,_,_,[],_,[],hW',trodAll_mk1 (shut_bool Tryz.underlying4 _),(trodAll_cons_mk (Below.trod laid0 qK (of_decide_eq_true qK) k0 bel lt0) trodAll_mk0),rfl,bel.frame _,fun h=>by cases h⟩
theorem slzRight_holds:Rows.SlzRightSaid :=
 OpenClaim.holds_of_wide 6 Tryz.f6 rfl rfl rfl rfl rfl rfl rfl ⟨rfl,rfl,rfl,rfl,rfl⟩ rfl rfl rfl rfl rfl qK Tryz.func6 qK
  (of_decide_eq_true qK) (by unfold Func.isWrapper; first | (rw [if_pos (by decide +kernel)]; kernel_rfl) | (rw [if_neg (by decide +kernel)]; exact ⟨rfl,rfl⟩))
  (fun os started H enc _=>vC os started H enc)
#print axioms slzRight_holds
end Go.Proofs.YtjebljkoiaojaaaGreat
