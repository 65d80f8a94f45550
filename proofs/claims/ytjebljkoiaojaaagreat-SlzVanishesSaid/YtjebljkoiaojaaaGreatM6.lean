/- The law SlzVanishes is true of each input, and changes none. No condition. -/
import Derived.Test.YtjebljkoiaojaaaGreatM5
import Derived.Test.YtjebljkoiaojaaaGreatRows
import Derived.OpenShut
import Derived.Below
import Derived.Lib.SmallJoins
set_option linter.unusedVariables false
set_option linter.unusedSimpArgs false
namespace Go.Proofs.YtjebljkoiaojaaaGreat
open Go.RowKit
structure SolveOk (P:List Int) (m t y:Int) (d n:Nat) (L:List Int) (dec:Bool):Prop where
 und:(lF P m t y d n).2=false→L=[]∧dec=false
 ok:(lF P m t y d n).2=true→dec=true∧∃ O e,FlSpec (lF P m t y d n).1 (-t) t O e∧L=(inRt (lF P m t y d n).1 O).filter fun x=>near (pev P x) m y
theorem ch9:Ch0 9 9 2:=⟨by decide,by decide,by decide,by decide,by decide,by decide⟩
theorem filter_succ {f:Int→Bool} {L:List Int} {i:Nat} (h:i<L.length):(L.take (i+1)).filter f=if f (L.getD i 0)=true then (L.take i).filter f++[L.getD i 0] else (L.take i).filter f:=by
 rw [List.take_add_one,List.getElem?_eq_getElem h,List.filter_append,gE,List.getElem?_eq_getElem h]
 simp only [Option.toList,Option.getD_some,List.filter_cons,List.filter_nil]
 split <;> simp
set_option maxHeartbeats 4000000 in
theorem slzSolve_ok (v w u z:Value) (p:Row) (m t y:Bool×List Nat) (d n:Nat) (hp:Fit 1 p) (hm:Lim m.2) (hma:m.2.length≤1) (ht:Lim t.2) (hta:t.2.length≤1) (hy:Lim y.2) (hya:y.2.length≤1)
  (h:Lil (vv p) (jv m) (jv t) (jv y) d n) :
  Meets Tryz.prog 28 [v,w,u,z,.int .i64 (n:Int)] [(v,V p),(w,J m),(u,J t),(z,J y)] (fun r os fs=>os=[]∧∃ q L dec,r=.tuple #[q,.bool dec,.int .i64 0]∧SolveOk (vv p) (jv m) (jv t) (jv y) d n L dec∧fs=[(q,vd L)]):=by
 have lp:p.length≤4:=by have:=h.Pl; rwa [cP] at this
 have hn2:=h.n2
 have hin:inK .i64 (n:Int):=by simp only [inK]; omega
 have hpl:=fun y1 y2 y3=>nQ v y1 y2 y3 p m t y n 1 1 hp qN qE hm hma ht hta hy hya qE hin
 rw [show planR (vv p) (jv m) (jv t) (jv y) n=(j0 (shp (dg (vv p) - 1) (n:Int).toNat) (fA (jv t)) (fA (jv y)) (jv m^(n:Int).toNat),0) from if_pos h.ok,h.dg,Nat.add_sub_cancel,Int.toNat_natCast] at hpl
 have hmx:=fun y1 y2 y3=>lJ v y1 y2 y3 p m t y n 1 1 hp qN qE qE hm hma ht hta hy hya qE qE hin
 rw [h.mat] at hmx
 have h9:=h.len
 have hrd:∀ y1,Meets Tryz.prog 30 [y1] [(y1,wd (lA (vv p) (jv m) (jv t) (jv y) d n))] (fun r os fs=>os=[]∧∃ q w,r=.tuple #[q,w,.int .i64 0]∧fs=[(q,wd (lR (vv p) (jv m) (jv t) (jv y) d n)),(w,wd (M2 (lW (vv p) (jv m) (jv t) (jv y) d n)))]):=fun y1=>by
  have:=lReduceT y1 (lW (vv p) (jv m) (jv t) (jv y) d n) 17 h.fits qE (by rw [pR]; omega) (by rw [h.wrow0]; omega) (by rw [pR]; exact (lK_le h9).2)
  rw [h.red] at this
  exact this
 have h22:=two_rows h
 have hfd:=fun y1 y2=>slzfound_meets y1 y2 (shp d n) (fA (jv t)) (fA (jv y)) (jv m^n) (lR (vv p) (jv m) (jv t) (jv y) d n) 4000 10 3 (fun p hp=>by have:=h.small hp; omega) qN (by rw [h.rlen]; omega) (fun i hi=>⟨h.rrow qN,h.rsz qN⟩) qE
  (fun s hs=>⟨h.scl hs,sclV_ne (lst1_ne _) (lst1_ne _) s⟩) qE h.hm qE
 have hfz:=h.fsz
 have hlF:uD (shp d n) (fA (jv t)) (fA (jv y)) (jv m^n) (lR (vv p) (jv m) (jv t) (jv y) d n)=lF (vv p) (jv m) (jv t) (jv y) d n:=rfl
 rw [hlF] at hfd
 have hS:∀ L dec,((lF (vv p) (jv m) (jv t) (jv y) d n).2=false→L=[]∧dec=false)→((lF (vv p) (jv m) (jv t) (jv y) d n).2=true→dec=true∧∃ O e,FlSpec (lF (vv p) (jv m) (jv t) (jv y) d n).1 (-jv t) (jv t) O e∧L=(inRt (lF (vv p) (jv m) (jv t) (jv y) d n).1 O).filter fun x=>near (pev (vv p) x) (jv m) (jv y))→SolveOk (vv p) (jv m) (jv t) (jv y) d n L dec:=fun L dec a b=>⟨a,b⟩
 have hm0:=h.pos.1
 have hP:=h.P1
 have zt:=h.t1
 clear h
 generalize lF (vv p) (jv m) (jv t) (jv y) d n=F at *
 generalize lR (vv p) (jv m) (jv t) (jv y) d n=R at *
 generalize lA (vv p) (jv m) (jv t) (jv y) d n=A at *
 generalize M2 _=U at *
 generalize hSS:shp d n=S at *
 generalize jv m^n=M at *
 generalize fA (jv t)=T at *
 generalize fA (jv y)=Y at *
 obtain ⟨f,b⟩:=F
 simp only at hfd hfz hS
 refine mV Tryz.func28 ?_
 refine bC (aB (d:=J m) qM) fun b1 h1=>?_
 refine bC (aB (d:=J t) qM) fun b2 h2=>?_
 refine bC (aB (d:=J y) qM) fun b3 h3=>?_
 refine aD (d:=J m) 2 rfl h1 rfl (a8 _) fun y1=>?_
 refine aD (d:=J t) 1 rfl h2 rfl (a8 _) fun y2=>?_
 refine aD (d:=J y) 0 rfl h3 rfl (a8 _) fun y3=>?_
 refine cF (hpl y1 y2 y3) ?_
 rintro _ _ _ ⟨rfl,q,rfl,rfl⟩
 refine aH (d:=fG) fun bp hbp=>?_
 refine aF (d:=j0 S T Y M) 0 rfl hbp rfl qK (aB qM) ?_
 refine bR rfl (fun h=>h rfl) ?_
 refine aD (d:=J m) 3 rfl h1 rfl (a8 _) fun y4=>?_
 refine aD (d:=J t) 2 rfl h2 rfl (a8 _) fun y5=>?_
 refine aD (d:=J y) 1 rfl h3 rfl (a8 _) fun y6=>?_
 refine cF (hmx y4 y5 y6) ?_
 rintro _ _ _ ⟨rfl,q2,rfl,rfl⟩
 refine cF (hrd q2) ?_
 rintro _ _ _ ⟨rfl,q3,q4,rfl,rfl⟩
 refine aD (d:=j0 S T Y M) 0 rfl hbp rfl (rP _ _ _ _) fun y7=>?_
 refine cF (hfd y7 q3) ?_
 rintro _ _ _ ⟨rfl,q5,rfl,rfl⟩
 cases b with
 | false =>
  exact fin ⟨rfl,.slice none 0 0,[],false,rfl,hS _ _ (fun _=>⟨rfl,rfl⟩) (fun h=>by simp at h),rfl⟩ (dS (dS (dS (dS (bA (dN 2 _) (aL _ _))))))
 | true =>
  obtain ⟨sf,lf,df,_,_,_⟩:=hfz rfl
  have hch:ChOk (vv (f.map cn)) 9 9 (1+1):=ch9.of sf.fit (by rw [List.length_map]; exact lf)
  have hIn:=fun y1 y2=>in_meets q5 y1 y2 (f.map cn) (cn (-jv t)) t 9 9 1 sf.fit (by rw [List.length_map]; exact lf) (aY _) zt.neg.len ht hta qE qE hch
  simp only [fH,eG] at hIn
  have hng:=fun y1=>zneg_meets y1 t.1 t.2 ht qN
  have hit:iv t.1 t.2=jv t:=rfl
  rw [hit] at hng
  refine a0 [0,1,3,2,4,5,6,7,8,9] [0,1,2,3,4,5,6,8,7,9] qK qK ?_
  refine aD (d:=J t) 2 rfl h2 rfl (a8 _) fun y8=>?_
  refine aD (d:=J t) 2 rfl h2 rfl (a8 _) fun y9=>?_
  refine cG (hng y8) fun y10=>?_
  refine cF (hIn y10 y9) ?_
  rintro _ _ _ ⟨rfl,q6,O,e,rfl,hO,rfl⟩
  have hmem:∀ x,x∈inRt f O→sz x 1:=fun x hx=>by
   have h1:=(List.mem_filter.1 hx).1
   have h2:=hO.mem x h1
   exact pM zt.neg zt h2.1 h2.2
  have hfew:(inRt f O).length≤1048578:=Nat.le_trans (List.length_filter_le _ _) hO.few
  have hRes:=hS ((inRt f O).filter fun x=>near (pev (vv p) x) (jv m) (jv y)) true (fun h=>by simp at h) fun _=>⟨rfl,O,e,hO,rfl⟩
  clear hS hO hIn hch hng hfd hrd hmx hpl hfz
  generalize inRt f O=Is at *
  refine aO (v:=q6) (n:=(Is.map cn).length) qM fun _=>?_
  refine aT (X:=Nat×Value) (fun x=>([(0,v),(6,b1),(8,b3),(24,x.2),(70,q6),(71,.int .i64 ((Is.map cn).length:Nat)),(72,.int .i64 (x.1:Nat))],
    [i8 2 J z0 x.2 (((Is.take x.1).filter fun x=>near (pev (vv p) x) (jv m) (jv y)).map cn),bK b3 2 1 (fun _=>J y),bK b1 2 1 (fun _=>J m)],[(q6,vd Is),(v,V p)]))
   (fun x=>x.1≤(Is.map cn).length∧isSl x.2) (fun x=>(Is.map cn).length - x.1) rfl ?_ ?_
  ·refine aU (0,.slice none 0 0) ⟨Nat.zero_le _,fF⟩ trivial qF ?_
   exact dS (aC (aW 1 _ _) (aC (cK _ _ 2 fun i=>J (([]:Row).getD i z0)) (aA qS)))
  rintro ⟨i,ov⟩ ⟨hi,hov⟩
  simp only [List.length_map] at hi ⊢
  simp only at hov ⊢
  have hli:(((Is.take i).filter fun x=>near (pev (vv p) x) (jv m) (jv y)).map cn).length≤1048578:=by
   rw [List.length_map]
   refine Nat.le_trans (List.length_filter_le _ _) ?_
   rw [List.length_take]; omega
  refine aE _ rfl (fun hlt=>?_) (fun hlt=>?_)
  ·have hiI:i<Is.length:=by omega
   have hfs:=filter_succ (f:=fun x=>near (pev (vv p) x) (jv m) (jv y)) hiI
   have hcg:=eZ hiI
   have zx:=hmem _ (cR 0 hiI)
   refine aK (v:=q6) qM i rfl (by rw [List.length_map]; exact hiI) fun a1=>?_
   refine aM (d:=J ((Is.map cn).getD i z0)) qM (a8 _) fun y11=>?_
   rw [hcg]
   generalize Is.getD i 0=X at *
   have hv:=fun z=>pValueJ v z p (cn X) 1 1 hp (aY _) zx.len qN qN
   rw [eG] at hv
   have zv:sz (pev (vv p) X) 1073741824:=(xI hP zx).mono (by rw [cP]; omega)
   have hw:=fun y1 y2 y3=>lI y1 y2 y3 (pev (vv p) X) m y _ zv qE hm qN hy qN qN
   generalize pev (vv p) X=Z at *
   refine aH (d:=I false []) fun bx hbx=>?_
   refine aF (d:=zd X) 0 rfl hbx rfl qK (aB (v:=y11) (d:=zd X) qM) ?_
   refine a0 [0,1,3,4,2,5] [0,1,2,3,4,5] qK qK ?_
   refine aD (d:=zd X) 0 rfl hbx rfl (aN _ _) fun y12=>?_
   refine aD (d:=J m) 3 rfl h1 rfl (a8 _) fun y13=>?_
   refine aD (d:=J y) 2 rfl h3 rfl (a8 _) fun y14=>?_
   refine cG (hv y12) fun y15=>?_
   refine cH (hw y15 y13 y14) ?_
   cases hne:near Z (jv m) (jv y) with
   | true =>
    rw [if_pos hne] at hfs
    refine aD (d:=zd X) 0 rfl hbx rfl (aN _ _) fun y16=>?_
    refine jN (size:=2) J z0 (cn X) qE (aB (v:=y16) (d:=zd X) qM) rfl fun l1=>?_
    refine eC 1 rfl hov (a9 qM) (by simp only [List.length_cons,List.length_nil]; omega) (by simp only [List.length_cons,List.length_nil]; omega) fun o2 ho2=>?_
    refine ar rfl qI ?_
    refine aU (i+1,o2) ⟨by simp only [List.length_map]; omega,ho2⟩ (by simp only; omega) qF ?_
    simp only [hfs,List.map_append,List.map_cons,List.map_nil]
    exact dS (aA qS)
   | false =>
    rw [if_neg (by rw [hne]; simp)] at hfs
    refine ar rfl qI ?_
    refine aU (i+1,ov) ⟨by simp only [List.length_map]; omega,hov⟩ (by simp only; omega) qF ?_
    simp only [hfs]
    exact dS (aA qS)
  ·have hiI:i=Is.length:=by omega
   subst hiI
   rw [List.take_length]
   exact fin ⟨rfl,ov,_,true,rfl,hRes,rfl⟩ (aC (dC hov) (dS (dS (aA qS))))
theorem sngJ_lg {c:Int} {i j k n:Nat} (hc:sz c k) (hi:i<n) (hj:j<n):Lg (sngJ (cn c) i j) (ww (sngJ (cn c) i j)) k n :=
 ⟨rfl,by simp [sngJ]; omega,fun r hr=>by
  unfold sngJ at hr
  rcases List.mem_append.1 hr with hr | hr
  ·rw [(List.mem_replicate.1 hr).2]; exact ⟨Nat.zero_le _,fun x hx=>by simp at hx⟩
  ·rw [List.mem_singleton.1 hr]
   refine ⟨by simp; omega,fun x hx=>?_⟩
   rcases List.mem_append.1 hx with hx | hx
   ·rw [(List.mem_replicate.1 hx).2]; exact ⟨z0_lim,Nat.zero_le _⟩
   ·rw [List.mem_singleton.1 hx]; exact ⟨aY _,hc.len⟩⟩
theorem gev_sng (c:Bool×List Nat) (i j:Nat) (x y:Int):gev (ww (sngJ c i j)) x y=jv c*(x^i*y^j):=by
 rw [gev_map]
 have e:(ww (sngJ c i j)).map (fun r=>pev r y)=List.replicate i 0++[jv c*y^j]:=by
  unfold ww sngJ
  rw [List.map_append,List.map_append,List.map_replicate,List.map_replicate]
  congr 1
  have e2:vv (List.replicate j z0++[c])=List.replicate j 0++[jv c]:=by
   unfold vv
   rw [List.map_append,List.map_replicate,jv_z0]; rfl
  simp only [List.map_cons,List.map_nil,e2]
  rw [ev_repl]
  simp [pev]; grind
 rw [e,ev_repl]
 simp [pev]; grind
def gK (s:List (Nat×Nat)) (T Y:Int) (R:List Int) (k:Nat):List (List Int):=gof (gFs s T Y R k) 101 101
theorem gK_ev {s:List (Nat×Nat)} {T Y:Int} {R:List Int} (hn:s.Nodup) (hb:∀ p,p∈s→p.1≤100∧p.2≤100) (x y:Int) {k:Nat} (hk:k≤s.length):gev (gK s T Y R k) x y=cN (fun k=>R.getD k 0/iG T Y (s.getD k (0,0))*(x^(s.getD k (0,0)).1*y^(s.getD k (0,0)).2)) k:=by
 obtain ⟨n,h1,h2⟩:=k9 (gK s T Y R k)
 rw [gev_fev (n:=max n 101) qN (fun i=>by have:=h2 i; omega)]
 have e:gv (gK s T Y R k)=gFs s T Y R k:=by
  funext u v
  unfold gK
  rw [w8]
  split
  ·rfl
  ·rename_i h
   refine (tH _ fun j hj e=>h ?_).symm
   have:=hb _ (cR (0,0) (show j<s.length by omega))
   rw [e] at this
   simp only at this; omega
 rw [e]
 exact gFs_fev hn (fun p hp=>by have:=hb p hp; omega) x y _ hk
theorem gK_succ {s:List (Nat×Nat)} {T Y:Int} {R:List Int} (hn:s.Nodup) (hb:∀ p,p∈s→p.1≤100∧p.2≤100) {k:Nat} (hk:k<s.length) :
  gadd (gK s T Y R k) (ww (sngJ (cn (R.getD k 0/iG T Y (s.getD k (0,0)))) (s.getD k (0,0)).1 (s.getD k (0,0)).2))=gK s T Y R (k+1) :=
 (gn_gn _).ev_ext (w9 _ _ _) fun x y=>by
  have h1:gev (gadd (gK s T Y R k) (ww (sngJ (cn (R.getD k 0/iG T Y (s.getD k (0,0)))) (s.getD k (0,0)).1 (s.getD k (0,0)).2))) x y=gev (gK s T Y R (k+1)) x y:=by
   rw [gev_gadd,gev_sng,eG,gK_ev hn hb x y qN,gK_ev hn hb x y qN]; rfl
  exact h1
theorem gK_lg {s:List (Nat×Nat)} {T Y:Int} {R:List Int} {a:Nat} (hR:szR a R) (k:Nat):Lg (toW (gK s T Y R k)) (gK s T Y R k) a 101:=by
 unfold gK
 refine Lg.gof (fun i j=>?_) (Nat.le_refl _) (Nat.le_refl _)
 rcases xF (s:=s) (T:=T) (Y:=Y) (R:=R) (u:=i) (v:=j) k with ⟨j,_,h2,_⟩ | h
 ·rw [h2]; exact pL (hR.get j)
 ·rw [h]; exact lH _
theorem gK_zero (s:List (Nat×Nat)) (T Y:Int) (R:List Int):gK s T Y R 0=[]:=(w9 _ _ _).ext (H:=[]) ⟨rfl,fun r hr=>by simp at hr⟩ fun i j=>by
 rw [w8]; simp [gFs,gv]
set_option maxHeartbeats 4000000 in
theorem rGrid17_meets (v w u z:Value) (R:List Int) (s:List (Nat×Nat)) (t y:Bool×List Nat) (a b e:Nat) (hn:s.Nodup) (hb:∀ p,p∈s→p.1≤100∧p.2≤100) (ls:s.length≤100) (lR:R.length=s.length) (hR:szR a R) (ha:a≤10000000)
  (ht:Lim t.2) (hta:t.2.length≤b) (hy:Lim y.2) (hya:y.2.length≤b) (hbb:b≤100000) (hz:∀ p,p∈s→sz (iG (fA (jv t)) (fA (jv y)) p) e) (he:e≤10000000) :
  Meets Tryz.prog 31 [v,w,u,z] [(v,vd R),(w,ShD s),(u,J t),(z,J y)] (fun r os fs=>os=[]∧fs=[(r,wd (i7 s (fA (jv t)) (fA (jv y)) R))]):=by
 have hsc0:=fun p (hp:p∈s) x1 x2 x3=>rScale_meets x1 x2 x3 t y p b ht hta hy hya hbb (by have:=hb p hp; omega)
 have hne:∀ p,iG (fA (jv t)) (fA (jv y)) p≠0:=fun p=>sclV_ne (lst1_ne _) (lst1_ne _) p
 have hgd:i7 s (fA (jv t)) (fA (jv y)) R=gK s (fA (jv t)) (fA (jv y)) R s.length:=rfl
 rw [hgd]
 generalize fA (jv t)=T at *
 generalize fA (jv y)=Y at *
 refine mV Tryz.func31 ?_
 refine bC (aB (d:=J t) qM) fun b1 h1=>?_
 refine bC (aB (d:=J y) qM) fun b2 h2=>?_
 refine empty_F (size:=1) (e:=22) V [] qE fun g0=>?_
 refine aT (X:=Nat×Value) (fun x=>([(0,v),(1,w),(6,b1),(7,b2),(9,x.2),(10,.int .i64 (x.1:Nat))],[bK b2 2 1 (fun _=>J y),bK b1 2 1 (fun _=>J t)],[(x.2,wd (gK s T Y R x.1)),(v,vd R),(w,ShD s)]))
  (fun x=>x.1≤s.length) (fun x=>s.length - x.1) rfl ?_ ?_
 ·refine aU (0,g0) (Nat.zero_le _) trivial qF ?_
  simp only [gK_zero]
  exact aA qS
 rintro ⟨k,g⟩ hk
 simp only at hk ⊢
 refine aO (v:=w) (n:=s.length) qM fun _=>?_
 refine aE _ rfl (fun hlt=>?_) (fun hlt=>?_)
 ·have hks:k<s.length:=by omega
  have hin:=cR (0,0) hks
  have hpb:=hb _ hin
  have hRk:(R.map cn).getD k z0=cn (R.getD k 0):=eZ qN
  have hsc:=hsc0 _ hin
  have zR:=hR.get k
  have hdm:=fun x1 x2=>rDivModZ x1 x2 (R.getD k 0) (iG T Y (s.getD k (0,0))) (a+e) (zR.mono qN) ((hz _ hin).mono qN) qN (hne _)
  have hgs:=gK_succ (T:=T) (Y:=Y) (R:=R) hn hb hks
  have zC:sz (R.getD k 0/iG T Y (s.getD k (0,0))) a:=pL zR
  have hadd:∀ x1 x2,Meets Tryz.prog 62 [x1,x2] [(x1,wd (gK s T Y R k)),(x2,W (sngJ (cn (R.getD k 0/iG T Y (s.getD k (0,0)))) (s.getD k (0,0)).1 (s.getD k (0,0)).2))] (fun r os fs=>os=[]∧fs=[(r,wd (gK s T Y R (k+1)))]):=fun x1 x2=>by
   have:=rAdd12_meets x1 x2 (gK_lg (s:=s) (T:=T) (Y:=Y) hR k) (sngJ_lg zC (n:=101) (show (s.getD k (0,0)).1<101 by omega) (show (s.getD k (0,0)).2<101 by omega)) qN qE
   rw [hgs] at this
   exact this
  generalize R.getD k 0/iG T Y (s.getD k (0,0))=C at *
  generalize R.getD k 0%iG T Y (s.getD k (0,0))=D at *
  refine iI (X:=Value) (fun bq=>([(0,v),(1,w),(6,b1),(7,b2),(9,g),(10,.int .i64 (k:Nat)),(11,bq)],[bK bq 2 1 (fun _=>zd C),bK b2 2 1 (fun _=>J y),bK b1 2 1 (fun _=>J t)],[(g,wd (gK s T Y R k)),(v,vd R),(w,ShD s)])) kY ?_ ?_
  ·
    refine eN [0,1,2,3,4,5,6,7,8,9,10,11,12,13,16,17,18,14,19,15,20] qK ?_
    refine a7 10 16 qK qK qK ?_ ?_
    ·refine a7 10 17 qK qK qK ?_ ?_
     ·refine a7 11 16 qK qK qK ?_ ?_
      ·refine a7 11 17 qK qK qK ?_ ?_
       ·refine a7 16 17 qK qK qK ?_ ?_
        ·refine cB [0,1,2,3,4,5,6,7,8,9,10,11,12,13,14,15,16,17,18,19,20] qK qK ?_
         refine aK (v:=v) qM k rfl (by rw [List.length_map]; omega) fun a1=>?_
         refine aM (d:=J ((R.map cn).getD k z0)) qM (a8 _) fun y1=>?_
         rw [hRk]
         refine aD (d:=J t) 1 rfl h1 rfl (a8 _) fun y2=>?_
         refine aD (d:=J y) 0 rfl h2 rfl (a8 _) fun y3=>?_
         refine aK (v:=w) qM k rfl hks fun a2=>?_
         refine aM (d:=spE (s.getD k (0,0))) qM (iT _) fun y4=>?_
         refine cG (hsc y2 y3 y4) fun y5=>?_
         refine cF (hdm y1 y5) ?_
         rintro _ _ _ ⟨rfl,q,r,rfl,rfl⟩
         refine aH (d:=I false []) fun bq hbq=>?_
         refine aH (d:=I false []) fun br hbr=>?_
         refine aF (d:=zd C) 1 rfl hbq rfl qK (aB (v:=q) qM) ?_
         refine aF (d:=zd D) 0 rfl hbr rfl qK (aB (v:=r) qM) ?_
         exact aU bq hbq trivial qF (dS (aC (bB rfl) (aA qS)))
        ·refine cB [0,1,2,3,4,5,6,7,8,9,10,11,12,13,14,15,17,16,18,19,20] qK qK ?_
         refine aK (v:=v) qM k rfl (by rw [List.length_map]; omega) fun a1=>?_
         refine aM (d:=J ((R.map cn).getD k z0)) qM (a8 _) fun y1=>?_
         rw [hRk]
         refine aD (d:=J t) 1 rfl h1 rfl (a8 _) fun y2=>?_
         refine aD (d:=J y) 0 rfl h2 rfl (a8 _) fun y3=>?_
         refine aK (v:=w) qM k rfl hks fun a2=>?_
         refine aM (d:=spE (s.getD k (0,0))) qM (iT _) fun y4=>?_
         refine cG (hsc y2 y3 y4) fun y5=>?_
         refine cF (hdm y1 y5) ?_
         rintro _ _ _ ⟨rfl,q,r,rfl,rfl⟩
         refine aH (d:=I false []) fun br hbr=>?_
         refine aH (d:=I false []) fun bq hbq=>?_
         refine aF (d:=zd C) 0 rfl hbq rfl qK (aB (v:=q) qM) ?_
         refine aF (d:=zd D) 1 rfl hbr rfl qK (aB (v:=r) qM) ?_
         exact aU bq hbq trivial qF (aC (aW 1 _ _) (aC (bB rfl) (aA qS)))
       ·refine cB [0,1,2,3,4,5,6,7,8,9,10,17,11,12,13,14,15,16,18,19,20] qK qK ?_
        refine aK (v:=v) qM k rfl (by rw [List.length_map]; omega) fun a1=>?_
        refine aM (d:=J ((R.map cn).getD k z0)) qM (a8 _) fun y1=>?_
        rw [hRk]
        refine aD (d:=J t) 1 rfl h1 rfl (a8 _) fun y2=>?_
        refine aD (d:=J y) 0 rfl h2 rfl (a8 _) fun y3=>?_
        refine aK (v:=w) qM k rfl hks fun a2=>?_
        refine aM (d:=spE (s.getD k (0,0))) qM (iT _) fun y4=>?_
        refine cG (hsc y2 y3 y4) fun y5=>?_
        refine aH (d:=I false []) fun br hbr=>?_
        refine cF (hdm y1 y5) ?_
        rintro _ _ _ ⟨rfl,q,r,rfl,rfl⟩
        refine aH (d:=I false []) fun bq hbq=>?_
        refine aF (d:=zd C) 0 rfl hbq rfl qK (aB (v:=q) qM) ?_
        refine aF (d:=zd D) 1 rfl hbr rfl qK (aB (v:=r) qM) ?_
        exact aU bq hbq trivial qF (aC (aW 1 _ _) (aC (bB rfl) (aA qS)))
      ·refine a7 11 17 qK qK qK ?_ ?_
       ·refine cB [0,1,2,3,4,5,6,7,8,9,10,16,11,12,13,14,15,17,18,19,20] qK qK ?_
        refine aK (v:=v) qM k rfl (by rw [List.length_map]; omega) fun a1=>?_
        refine aM (d:=J ((R.map cn).getD k z0)) qM (a8 _) fun y1=>?_
        rw [hRk]
        refine aD (d:=J t) 1 rfl h1 rfl (a8 _) fun y2=>?_
        refine aD (d:=J y) 0 rfl h2 rfl (a8 _) fun y3=>?_
        refine aK (v:=w) qM k rfl hks fun a2=>?_
        refine aM (d:=spE (s.getD k (0,0))) qM (iT _) fun y4=>?_
        refine cG (hsc y2 y3 y4) fun y5=>?_
        refine aH (d:=I false []) fun bq hbq=>?_
        refine cF (hdm y1 y5) ?_
        rintro _ _ _ ⟨rfl,q,r,rfl,rfl⟩
        refine aH (d:=I false []) fun br hbr=>?_
        refine aF (d:=zd C) 1 rfl hbq rfl qK (aB (v:=q) qM) ?_
        refine aF (d:=zd D) 0 rfl hbr rfl qK (aB (v:=r) qM) ?_
        exact aU bq hbq trivial qF (dS (aC (bB rfl) (aA qS)))
       ·refine a7 16 17 qK qK qK ?_ ?_
        ·refine cB [0,1,2,3,4,5,6,7,8,9,10,16,17,11,12,13,14,15,18,19,20] qK qK ?_
         refine aK (v:=v) qM k rfl (by rw [List.length_map]; omega) fun a1=>?_
         refine aM (d:=J ((R.map cn).getD k z0)) qM (a8 _) fun y1=>?_
         rw [hRk]
         refine aD (d:=J t) 1 rfl h1 rfl (a8 _) fun y2=>?_
         refine aD (d:=J y) 0 rfl h2 rfl (a8 _) fun y3=>?_
         refine aK (v:=w) qM k rfl hks fun a2=>?_
         refine aM (d:=spE (s.getD k (0,0))) qM (iT _) fun y4=>?_
         refine cG (hsc y2 y3 y4) fun y5=>?_
         refine aH (d:=I false []) fun bq hbq=>?_
         refine aH (d:=I false []) fun br hbr=>?_
         refine cF (hdm y1 y5) ?_
         rintro _ _ _ ⟨rfl,q,r,rfl,rfl⟩
         refine aF (d:=zd C) 1 rfl hbq rfl qK (aB (v:=q) qM) ?_
         refine aF (d:=zd D) 0 rfl hbr rfl qK (aB (v:=r) qM) ?_
         exact aU bq hbq trivial qF (dS (aC (bB rfl) (aA qS)))
        ·refine cB [0,1,2,3,4,5,6,7,8,9,10,17,16,11,12,13,14,15,18,19,20] qK qK ?_
         refine aK (v:=v) qM k rfl (by rw [List.length_map]; omega) fun a1=>?_
         refine aM (d:=J ((R.map cn).getD k z0)) qM (a8 _) fun y1=>?_
         rw [hRk]
         refine aD (d:=J t) 1 rfl h1 rfl (a8 _) fun y2=>?_
         refine aD (d:=J y) 0 rfl h2 rfl (a8 _) fun y3=>?_
         refine aK (v:=w) qM k rfl hks fun a2=>?_
         refine aM (d:=spE (s.getD k (0,0))) qM (iT _) fun y4=>?_
         refine cG (hsc y2 y3 y4) fun y5=>?_
         refine aH (d:=I false []) fun br hbr=>?_
         refine aH (d:=I false []) fun bq hbq=>?_
         refine cF (hdm y1 y5) ?_
         rintro _ _ _ ⟨rfl,q,r,rfl,rfl⟩
         refine aF (d:=zd C) 0 rfl hbq rfl qK (aB (v:=q) qM) ?_
         refine aF (d:=zd D) 1 rfl hbr rfl qK (aB (v:=r) qM) ?_
         exact aU bq hbq trivial qF (aC (aW 1 _ _) (aC (bB rfl) (aA qS)))
     ·refine a7 11 16 qK qK qK ?_ ?_
      ·refine cB [0,1,2,3,4,5,6,7,8,9,17,10,11,12,13,14,15,16,18,19,20] qK qK ?_
       refine aK (v:=v) qM k rfl (by rw [List.length_map]; omega) fun a1=>?_
       refine aM (d:=J ((R.map cn).getD k z0)) qM (a8 _) fun y1=>?_
       rw [hRk]
       refine aD (d:=J t) 1 rfl h1 rfl (a8 _) fun y2=>?_
       refine aD (d:=J y) 0 rfl h2 rfl (a8 _) fun y3=>?_
       refine aK (v:=w) qM k rfl hks fun a2=>?_
       refine aM (d:=spE (s.getD k (0,0))) qM (iT _) fun y4=>?_
       refine aH (d:=I false []) fun br hbr=>?_
       refine cG (hsc y2 y3 y4) fun y5=>?_
       refine cF (hdm y1 y5) ?_
       rintro _ _ _ ⟨rfl,q,r,rfl,rfl⟩
       refine aH (d:=I false []) fun bq hbq=>?_
       refine aF (d:=zd C) 0 rfl hbq rfl qK (aB (v:=q) qM) ?_
       refine aF (d:=zd D) 1 rfl hbr rfl qK (aB (v:=r) qM) ?_
       exact aU bq hbq trivial qF (aC (aW 1 _ _) (aC (bB rfl) (aA qS)))
      ·refine cB [0,1,2,3,4,5,6,7,8,9,17,10,16,11,12,13,14,15,18,19,20] qK qK ?_
       refine aK (v:=v) qM k rfl (by rw [List.length_map]; omega) fun a1=>?_
       refine aM (d:=J ((R.map cn).getD k z0)) qM (a8 _) fun y1=>?_
       rw [hRk]
       refine aD (d:=J t) 1 rfl h1 rfl (a8 _) fun y2=>?_
       refine aD (d:=J y) 0 rfl h2 rfl (a8 _) fun y3=>?_
       refine aK (v:=w) qM k rfl hks fun a2=>?_
       refine aM (d:=spE (s.getD k (0,0))) qM (iT _) fun y4=>?_
       refine aH (d:=I false []) fun br hbr=>?_
       refine cG (hsc y2 y3 y4) fun y5=>?_
       refine aH (d:=I false []) fun bq hbq=>?_
       refine cF (hdm y1 y5) ?_
       rintro _ _ _ ⟨rfl,q,r,rfl,rfl⟩
       refine aF (d:=zd C) 0 rfl hbq rfl qK (aB (v:=q) qM) ?_
       refine aF (d:=zd D) 1 rfl hbr rfl qK (aB (v:=r) qM) ?_
       exact aU bq hbq trivial qF (aC (aW 1 _ _) (aC (bB rfl) (aA qS)))
    ·refine a7 10 17 qK qK qK ?_ ?_
     ·refine a7 11 17 qK qK qK ?_ ?_
      ·refine cB [0,1,2,3,4,5,6,7,8,9,16,10,11,12,13,14,15,17,18,19,20] qK qK ?_
       refine aK (v:=v) qM k rfl (by rw [List.length_map]; omega) fun a1=>?_
       refine aM (d:=J ((R.map cn).getD k z0)) qM (a8 _) fun y1=>?_
       rw [hRk]
       refine aD (d:=J t) 1 rfl h1 rfl (a8 _) fun y2=>?_
       refine aD (d:=J y) 0 rfl h2 rfl (a8 _) fun y3=>?_
       refine aK (v:=w) qM k rfl hks fun a2=>?_
       refine aM (d:=spE (s.getD k (0,0))) qM (iT _) fun y4=>?_
       refine aH (d:=I false []) fun bq hbq=>?_
       refine cG (hsc y2 y3 y4) fun y5=>?_
       refine cF (hdm y1 y5) ?_
       rintro _ _ _ ⟨rfl,q,r,rfl,rfl⟩
       refine aH (d:=I false []) fun br hbr=>?_
       refine aF (d:=zd C) 1 rfl hbq rfl qK (aB (v:=q) qM) ?_
       refine aF (d:=zd D) 0 rfl hbr rfl qK (aB (v:=r) qM) ?_
       exact aU bq hbq trivial qF (dS (aC (bB rfl) (aA qS)))
      ·refine cB [0,1,2,3,4,5,6,7,8,9,16,10,17,11,12,13,14,15,18,19,20] qK qK ?_
       refine aK (v:=v) qM k rfl (by rw [List.length_map]; omega) fun a1=>?_
       refine aM (d:=J ((R.map cn).getD k z0)) qM (a8 _) fun y1=>?_
       rw [hRk]
       refine aD (d:=J t) 1 rfl h1 rfl (a8 _) fun y2=>?_
       refine aD (d:=J y) 0 rfl h2 rfl (a8 _) fun y3=>?_
       refine aK (v:=w) qM k rfl hks fun a2=>?_
       refine aM (d:=spE (s.getD k (0,0))) qM (iT _) fun y4=>?_
       refine aH (d:=I false []) fun bq hbq=>?_
       refine cG (hsc y2 y3 y4) fun y5=>?_
       refine aH (d:=I false []) fun br hbr=>?_
       refine cF (hdm y1 y5) ?_
       rintro _ _ _ ⟨rfl,q,r,rfl,rfl⟩
       refine aF (d:=zd C) 1 rfl hbq rfl qK (aB (v:=q) qM) ?_
       refine aF (d:=zd D) 0 rfl hbr rfl qK (aB (v:=r) qM) ?_
       exact aU bq hbq trivial qF (dS (aC (bB rfl) (aA qS)))
     ·refine a7 16 17 qK qK qK ?_ ?_
      ·refine cB [0,1,2,3,4,5,6,7,8,9,16,17,10,11,12,13,14,15,18,19,20] qK qK ?_
       refine aK (v:=v) qM k rfl (by rw [List.length_map]; omega) fun a1=>?_
       refine aM (d:=J ((R.map cn).getD k z0)) qM (a8 _) fun y1=>?_
       rw [hRk]
       refine aD (d:=J t) 1 rfl h1 rfl (a8 _) fun y2=>?_
       refine aD (d:=J y) 0 rfl h2 rfl (a8 _) fun y3=>?_
       refine aK (v:=w) qM k rfl hks fun a2=>?_
       refine aM (d:=spE (s.getD k (0,0))) qM (iT _) fun y4=>?_
       refine aH (d:=I false []) fun bq hbq=>?_
       refine aH (d:=I false []) fun br hbr=>?_
       refine cG (hsc y2 y3 y4) fun y5=>?_
       refine cF (hdm y1 y5) ?_
       rintro _ _ _ ⟨rfl,q,r,rfl,rfl⟩
       refine aF (d:=zd C) 1 rfl hbq rfl qK (aB (v:=q) qM) ?_
       refine aF (d:=zd D) 0 rfl hbr rfl qK (aB (v:=r) qM) ?_
       exact aU bq hbq trivial qF (dS (aC (bB rfl) (aA qS)))
      ·refine cB [0,1,2,3,4,5,6,7,8,9,17,16,10,11,12,13,14,15,18,19,20] qK qK ?_
       refine aK (v:=v) qM k rfl (by rw [List.length_map]; omega) fun a1=>?_
       refine aM (d:=J ((R.map cn).getD k z0)) qM (a8 _) fun y1=>?_
       rw [hRk]
       refine aD (d:=J t) 1 rfl h1 rfl (a8 _) fun y2=>?_
       refine aD (d:=J y) 0 rfl h2 rfl (a8 _) fun y3=>?_
       refine aK (v:=w) qM k rfl hks fun a2=>?_
       refine aM (d:=spE (s.getD k (0,0))) qM (iT _) fun y4=>?_
       refine aH (d:=I false []) fun br hbr=>?_
       refine aH (d:=I false []) fun bq hbq=>?_
       refine cG (hsc y2 y3 y4) fun y5=>?_
       refine cF (hdm y1 y5) ?_
       rintro _ _ _ ⟨rfl,q,r,rfl,rfl⟩
       refine aF (d:=zd C) 0 rfl hbq rfl qK (aB (v:=q) qM) ?_
       refine aF (d:=zd D) 1 rfl hbr rfl qK (aB (v:=r) qM) ?_
       exact aU bq hbq trivial qF (aC (aW 1 _ _) (aC (bB rfl) (aA qS)))
  rintro bq hbq
  simp only
  refine a0 [0,1,2,3,4,5,6,7,8,9,10,11,12,13,14] [0,1,2,3,4,5,6,7,8,9,10,11,12,13,14] qK qK ?_
  refine aD (d:=zd C) 0 rfl hbq rfl (aN _ _) fun y6=>?_
  refine aK (v:=w) qM k rfl hks fun a3=>?_
  refine pF (v:=a3) (d:=spE (s.getD k (0,0))) qM 0 rfl qE (aZ (aJ _)) fun a4=>?_
  refine bF (p:=a4) qM ?_
  refine aK (v:=w) qM k rfl hks fun a5=>?_
  refine pF (v:=a5) (d:=spE (s.getD k (0,0))) qM 1 rfl qE (aS (aJ _)) fun a6=>?_
  refine bF (p:=a6) qM ?_
  refine cG (rSingle_meets y6 (cn C) (s.getD k (0,0)).1 (s.getD k (0,0)).2 qN qN) fun y7=>?_
  refine cG (hadd g y7) fun y8=>?_
  refine ar rfl qI ?_
  exact aU (k+1,y8) (by simp only; omega) (by simp only; omega) qF (dS (aA qS))
 ·have hks:k=s.length:=by omega
  subst hks
  exact fin ⟨rfl,rfl⟩ (dS (dS (aA qS)))
theorem lM (v:Value) (l:List Int) (hl:l.length≤1000) (hz:∀ x,x∈l → -9223372036854775808≤x∧x<9223372036854775808) :
  Meets Tryz.prog 48 [v] [(v,IL l)] (fun r os fs=>os=[]∧fs=[(r,vd l)]):=by
 have hfin:lst l.length (fun i=>l.getD i 0)=l:=by
  have:=lst_map l fun x=>x
  rw [List.map_id'] at this
  exact this
 have hg:∀ i,i<l.length → -9223372036854775808≤l.getD i 0∧l.getD i 0<9223372036854775808:=fun i hi=>hz _ (cR 0 hi)
 refine mV Tryz.func48 ?_
 refine mM (size:=2) (e:=26) J z0 qE fun v0 hv0=>?_
 refine aT (X:=Value×Nat) (fun x=>([(0,v),(3,x.1),(4,.int .i64 (x.2:Nat))],[i8 2 J z0 x.1 ((lst x.2 fun i=>l.getD i 0).map cn)],[(v,IL l)])) (fun x=>isSl x.1∧x.2≤l.length) (fun x=>l.length - x.2) rfl ?_ ?_
 ·exact aU (v0,0) ⟨hv0,Nat.zero_le _⟩ trivial qF (aA qS)
 ·rintro ⟨vo,i⟩ ⟨hvo,h2⟩
  simp only at hvo h2 ⊢
  refine aO qM fun _=>?_
  refine aE _ rfl (fun hlt=>?_) (fun hlt=>?_)
  ·have hin:i<l.length:=by omega
   have hll:(lst i fun i=>l.getD i 0).length=i:=dF _ _
   refine aK qM i rfl hin fun a1=>?_
   refine bF qM ?_
   refine cG (jE (l.getD i 0) (hg i hin).1 (hg i hin).2) fun y=>?_
   refine jN (size:=2) (f:=J) (z:=z0) (e:=26) (cn (l.getD i 0)) qE (aB qM) rfl fun y4=>?_
   refine eC (size:=2) (e:=26) (f:=J) (z:=z0) (l:=(lst i fun i=>l.getD i 0).map cn) (m:=[cn (l.getD i 0)]) 0 rfl hvo (a9 qM) (by simp only [List.length_map,hll,List.length_cons,List.length_nil]; omega) (by simp only [List.length_map,hll,List.length_cons,List.length_nil]; omega) fun vn hvn=>?_
   refine ar rfl qI ?_
   refine aU (vn,i+1) ⟨hvn,by simp only; omega⟩ (by simp only; omega) qF ?_
   rw [show (lst i fun i=>l.getD i 0).map cn++[cn (l.getD i 0)]=(lst (i+1) fun i=>l.getD i 0).map cn by rw [pA,List.map_append]; rfl]
   exact aA qS
  ·have hii:i=l.length:=by omega
   subst hii
   refine fin ⟨rfl,rfl⟩ (aC (dC hvo) ?_)
   rw [hfin]
   exact aA qS
theorem fJ (x:Int) (h1 : -9223372036854775808≤x) (h2:x<9223372036854775808) :
  Meets Tryz.prog 23 [.int .i64 x] [] (fun r os fs=>os=[]∧fs=[(r,zd x)]):=by
 refine mV Tryz.func23 ?_
 refine aH (d:=I false []) fun o ho=>?_
 refine cG (jE x h1 h2) fun y=>?_
 refine aF (d:=zd x) 0 rfl ho rfl qK (aB (v:=y) qM) ?_
 refine aD (d:=zd x) 0 rfl ho rfl (aN _ _) fun r=>?_
 exact fin ⟨rfl,rfl⟩ (dS (aA qS))
def l4 (p:Row) (m t y:Bool×List Nat) (n:Int):Dat:=.cat (V p) (.cat (J m) (.cat (J t) (.cat (J y) (.one (.int .i64 n)))))
instance iCYo1:TAgg Tryz.prog 28 8:=⟨⟨_,Tryz.underlying28,rfl⟩,by kernel_rfl⟩
instance iCYo2:uL Tryz.prog 28 0 0:=⟨_,_,Tryz.underlying28,rfl,rfl,0,by kernel_rfl⟩
instance iCYo3:uL Tryz.prog 28 1 1:=⟨_,_,Tryz.underlying28,rfl,rfl,1,by kernel_rfl⟩
instance iCYo4:uL Tryz.prog 28 2 3:=⟨_,_,Tryz.underlying28,rfl,rfl,1,by kernel_rfl⟩
instance iCYo5:uL Tryz.prog 28 3 5:=⟨_,_,Tryz.underlying28,rfl,rfl,1,by kernel_rfl⟩
instance iCYo6:uL Tryz.prog 28 4 7:=⟨_,_,Tryz.underlying28,rfl,rfl,0,by kernel_rfl⟩
theorem load_ask (p:Row) (m t y:Bool×List Nat) (n:Int):jW Tryz.prog 28 (l4 p m t y n):=(inferInstance:TAgg Tryz.prog 28 8)
theorem pt_p (p:Row) (m t y:Bool×List Nat) (n:Int):Part 0 (l4 p m t y n) (V p):=aZ (aJ _)
theorem pt_m (p:Row) (m t y:Bool×List Nat) (n:Int):Part 1 (l4 p m t y n) (J m):=aS (aZ (aJ _))
theorem pt_t (p:Row) (m t y:Bool×List Nat) (n:Int):Part 3 (l4 p m t y n) (J t):=aS (aS (aZ (aJ _)))
theorem pt_y (p:Row) (m t y:Bool×List Nat) (n:Int):Part 5 (l4 p m t y n) (J y):=aS (aS (aS (aZ (aJ _))))
theorem pt_n (p:Row) (m t y:Bool×List Nat) (n:Int):Part 7 (l4 p m t y n) (.one (.int .i64 n)):=aS (aS (aS (aS (aJ _))))
theorem little7_meets (v:Value) (p:Row) (m t y:Bool×List Nat) (n:Int) (hn:inK .i64 n) (hp:limR p) :
  Meets Tryz.prog 27 [v] [(v,l4 p m t y n)] (fun r os fs=>os=[]∧fs=[]∧∃ b,r=.bool b∧(b=true→smallR 4 1 p∧m.2.length≤1∧t.2.length≤1∧y.2.length≤1∧n≤2∧(1≤n→((dg (vv p):Nat) - 1:Int)*n≤4))):=by
 refine mV Tryz.func27 ?_
 refine iO (aB (d:=l4 p m t y n) qM) fun bq=>?_
 refine a0 [0,1,2,3,4,5,6,7,8,9,10,11,12,13,14,15,16,17,18,19,20,21,22,23,24,25,26,27,28,29,30,31,33,34,32,35,36,37,38] [0,1,2,3,4,5,6,7,8,9,10,11,12,13,14,15,16,17,18,19,20,21,22,23,24,25,26,27,28,29,30,31,32,33,34,35,36,37,38] qK qK ?_
 refine bT (p:=bq) (d:=l4 p m t y n) qM (pt_p p m t y n) fun a1=>?_
 refine aM (p:=a1) (d:=V p) qM (jL _) fun y1=>?_
 refine cH (rFits_meets y1 p 4 1) ?_
 by_cases hs:p.length≤4∧∀ x,x∈p→x.2.length≤1
 case neg =>
  rw [decide_eq_false hs]
  exact fin ⟨rfl,rfl,false,rfl,fun h=>by simp at h⟩ (aL _ _)
 rw [decide_eq_true hs]
 refine bT (p:=bq) (d:=l4 p m t y n) qM (pt_m p m t y n) fun a1=>?_
 refine bT (p:=a1) (off:=1) (d:=J m) (d':=U (m).2) qM (aS (aJ _)) fun a2=>?_
 refine aM (p:=a2) (d:=U (m).2) qM (cU _) fun u1=>?_
 refine aO (v:=u1) (n:=(m).2.length) qM fun _=>?_
 refine aE _ rfl (fun h1=>?_) (fun h1=>?_)
 case refine_2 =>
  exact fin ⟨rfl,rfl,false,rfl,fun h=>by simp at h⟩ (aL _ _)
 refine bT (p:=bq) (d:=l4 p m t y n) qM (pt_t p m t y n) fun a1=>?_
 refine bT (p:=a1) (off:=1) (d:=J t) (d':=U (t).2) qM (aS (aJ _)) fun a2=>?_
 refine aM (p:=a2) (d:=U (t).2) qM (cU _) fun u1=>?_
 refine aO (v:=u1) (n:=(t).2.length) qM fun _=>?_
 refine aE _ rfl (fun h2=>?_) (fun h2=>?_)
 case refine_2 =>
  exact fin ⟨rfl,rfl,false,rfl,fun h=>by simp at h⟩ (aL _ _)
 refine bT (p:=bq) (d:=l4 p m t y n) qM (pt_y p m t y n) fun a1=>?_
 refine bT (p:=a1) (off:=1) (d:=J y) (d':=U (y).2) qM (aS (aJ _)) fun a2=>?_
 refine aM (p:=a2) (d:=U (y).2) qM (cU _) fun u1=>?_
 refine aO (v:=u1) (n:=(y).2.length) qM fun _=>?_
 refine aE _ rfl (fun h3=>?_) (fun h3=>?_)
 case refine_2 =>
  exact fin ⟨rfl,rfl,false,rfl,fun h=>by simp at h⟩ (aL _ _)
 refine bT (p:=bq) (d:=l4 p m t y n) qM (pt_n p m t y n) fun a1=>?_
 refine bF (p:=a1) qM ?_
 refine aE _ rfl (fun h4=>?_) (fun h4=>?_)
 case refine_2 =>
  exact fin ⟨rfl,rfl,false,rfl,fun h=>by simp at h⟩ (aL _ _)
 have hdd:=fun z=>uU z p (fun x hx=>⟨hp x hx,Nat.le_trans (hs.2 x hx) qE⟩)
 have hdl:dg (vv p)≤4:=by have:=dI (vv p); rw [cP] at this; omega
 refine bT (p:=bq) (d:=l4 p m t y n) qM (pt_p p m t y n) fun a1=>?_
 refine aM (p:=a1) (d:=V p) qM (jL _) fun y2=>?_
 refine bT (p:=bq) (d:=l4 p m t y n) qM (pt_n p m t y n) fun a1=>?_
 refine bF (p:=a1) qM ?_
 refine cH (hdd y2) ?_
 refine cW rfl (IntKind.i64.wrap (((dg (vv p):Nat) - 1:Int)*n)) rfl ?_
 refine aE _ rfl (fun h5=>?_) (fun h5=>?_)
 case refine_2 =>
  exact fin ⟨rfl,rfl,false,rfl,fun h=>by simp at h⟩ (aL _ _)
 refine fin ⟨rfl,rfl,true,rfl,fun _=>⟨hs,by omega,by omega,by omega,by omega,fun g=>?_⟩⟩ (aL _ _)
 have h6:((dg (vv p):Nat) - 1:Int)*n=0 - n∨((dg (vv p):Nat) - 1:Int)*n=0∨((dg (vv p):Nat) - 1:Int)*n=n∨((dg (vv p):Nat) - 1:Int)*n=2*n∨((dg (vv p):Nat) - 1:Int)*n=3*n:=by
  have:dg (vv p)=0∨dg (vv p)=1∨dg (vv p)=2∨dg (vv p)=3∨dg (vv p)=4:=by omega
  rcases this with e | e | e | e | e <;> rw [e] <;> simp <;> omega
 rw [wrapI64] at h5
 have h7:=hn.1
 have h8:=hn.2
 clear hdd
 rcases h6 with e | e | e | e | e <;> rw [e] at h5 ⊢ <;> omega
open Go.RowKit Go.ChangeShapes Go.WideShapes Go.ChangeAt Go.Deep
section
variable {H:Type} {enc:TypeId×Value→H} {w:World} {base:Nat} {spare:Nat→Bool} {held:Bool}
theorem rd_ask5 {P:Program} {t tp ti tn:TypeId} {f0 f1 f2 f3 f4:Field} (ht:P.underlying t=some (.struct #[f0,f1,f2,f3,f4])) (e0:f0.type=tp∧f0.offset=0) (e1:f1.type=ti∧f1.offset=1) (e2:f2.type=ti∧f2.offset=3) (e3:f3.type=ti∧f3.offset=5) (e4:f4.type=tn∧f4.offset=7)
  (cp:P.cellsOf tp=1) (ci:P.cellsOf ti=2) (cn':P.cellsOf tn=1) (hn:P.underlying tn=some (.int .i64))
  (ep:∀ (n:Nat) (cs:List Value) (x:DataW H×List MemPlace),DataW.trod enc P w base spare held n tp cs=some x→∃ r:Row,limR r∧RdC (fun b=>b<w.heap.size) w (V r) cs)
  (ei:∀ (n:Nat) (cs:List Value) (x:DataW H×List MemPlace),cs.length=2→DataW.trod enc P w base spare held n ti cs=some x→∃ y:Bool×List Nat,Lim y.2∧RdC (fun b=>b<w.heap.size) w (J y) cs)
  {fuel:Nat} {cs:List Value} {x:DataW H×List MemPlace} (hl:cs.length=8) (h:DataW.trod enc P w base spare held fuel t cs=some x) :
  ∃ (p:Row) (m u y:Bool×List Nat) (n:Int),(limR p∧Lim m.2∧Lim u.2∧Lim y.2∧inK .i64 n)∧RdC (fun b=>b<w.heap.size) w (l4 p m u y n) cs:=by
 obtain ⟨xs,n,_,rfl,_,hlen,hf⟩:=DataW.trod_struct ht h
 match xs,hlen with
 | [y0,y1,y2,y3,y4],_ =>
  have h0:=hf 0 f0 rfl
  have h1:=hf 1 f1 rfl
  have h2:=hf 2 f2 rfl
  have h3:=hf 3 f3 rfl
  have h4:=hf 4 f4 rfl
  rw [e0.1,e0.2,cp] at h0
  rw [e1.1,e1.2,ci] at h1
  rw [e2.1,e2.2,ci] at h2
  rw [e3.1,e3.2,ci] at h3
  rw [e4.1,e4.2,cn'] at h4
  match cs,hl with
  | [c0,c1,c2,c3,c4,c5,c6,c7],_ =>
   obtain ⟨p,a1,a2⟩:=ep _ _ _ h0
   obtain ⟨m,b1,b2⟩:=ei _ _ _ rfl h1
   obtain ⟨u,d1,d2⟩:=ei _ _ _ rfl h2
   obtain ⟨y,g1,g2⟩:=ei _ _ _ rfl h3
   obtain ⟨k,k1,_,k2⟩:=DataW.trod_int hn h4
   obtain rfl:c7=.int .i64 k:=by simpa using k1
   refine ⟨p,m,u,y,k,⟨a1,b1,d1,g1,?_⟩,?_⟩
   ·have:=i64_of k2
    simp only [inK]; omega
   ·exact ⟨[c0],_,rfl,a2,[c1,c2],_,rfl,b2,[c3,c4],_,rfl,d2,[c5,c6],[.int .i64 k],rfl,g2,⟨rfl,rfl⟩⟩
end
theorem rd_askV {P:Program} {t:TypeId} {fs:Array Field} {H:Type} {enc:TypeId×Value→H} {w:World} {r:Reach} {base base':Nat} {spare:Nat→Bool} {held:Bool} {v:Value} {d:DataW H} {p:List MemPlace} (ht:P.underlying t=some (.struct fs)) (hc:P.cellsOf t=8)
  (el:∀ (n:Nat) (cs:List Value) (x:DataW H×List MemPlace),cs.length=8→DataW.trod enc P w base spare held n t cs=some x→∃ (p:Row) (m u y:Bool×List Nat) (n:Int),(limR p∧Lim m.2∧Lim u.2∧Lim y.2∧inK .i64 n)∧RdC (fun b=>b<w.heap.size) w (l4 p m u y n) cs)
  (hv:Value.okWide P w r base' t v) (h:DataW.Trod enc P w base spare held t v d p):∃ (p:Row) (m u y:Bool×List Nat) (n:Int),(limR p∧Lim m.2∧Lim u.2∧Lim y.2∧inK .i64 n)∧Rd (fun b=>b<w.heap.size) w v (l4 p m u y n):=by
 obtain ⟨cs,rfl,hsz⟩:=okWide_struct ht hv
 obtain ⟨fuel,hf⟩:=h
 have hcs:(Value.agg cs).cells.toList=cs.toList:=by simp [Value.cells]
 rw [hcs] at hf
 obtain ⟨p,m,u,y,n,h1,h2⟩:=el _ _ _ (by simpa using hsz.trans hc) hf
 exact ⟨p,m,u,y,n,h1,cs.toList,h2,by unfold l4 qT; simp⟩
set_option maxRecDepth 100000 in
theorem rd_ask {H:Type} {enc:TypeId×Value→H} {w:World} {r:Reach} {base base':Nat} {spare:Nat→Bool} {held:Bool} {v:Value} {d:DataW H} {p:List MemPlace} (hv:Value.okWide Tryz.prog w r base' 28 v)
  (h:DataW.Trod enc Tryz.prog w base spare held 28 v d p):∃ (p:Row) (m u y:Bool×List Nat) (n:Int),(limR p∧Lim m.2∧Lim u.2∧Lim y.2∧inK .i64 n)∧Rd (fun b=>b<w.heap.size) w v (l4 p m u y n) :=
 have hc:Tryz.prog.cellsOf 28=8:=by kernel_rfl
 have el:∀ (n:Nat) (cs:List Value) (x:DataW H×List MemPlace),cs.length=8→DataW.trod enc Tryz.prog w base spare held n 28 cs=some x→∃ (p:Row) (m u y:Bool×List Nat) (n:Int),(limR p∧Lim m.2∧Lim u.2∧Lim y.2∧inK .i64 n)∧RdC (fun b=>b<w.heap.size) w (l4 p m u y n) cs:=fun _ _ _ hl h =>
  rd_ask5 (tp:=23) (ti:=26) (tn:=3) Tryz.underlying28 ⟨rfl,rfl⟩ ⟨rfl,rfl⟩ ⟨rfl,rfl⟩ ⟨rfl,rfl⟩ ⟨rfl,rfl⟩ qK qK qK Tryz.underlying3 (fun _ _ _ h=>rd_poly h) (fun _ _ _ hl h=>rd_int hl h) hl h
 rd_askV (P:=Tryz.prog) (t:=28) (v:=v) (r:=r) (base:=base) (base':=base') Tryz.underlying28 hc el hv h
theorem fit7 {l:List Int} (h:∀ x,x∈l→x.natAbs<18446744073709551616):Fit 1 (l.map cn):=Fit_cn fun x hx=>by
 have:=h x hx
 unfold sz; simpa using this
theorem sm7 (x:Int) (h:x.natAbs<18446744073709551616):sz x 1:=by unfold sz; simpa using h
theorem shapeT (v w:Value) (a b:List (Nat×Nat)) (h:a=b):Meets Tryz.prog 19 [v,w] [(v,ShD a),(w,ShD b)] (fun r os fs=>os=[]∧fs=[]∧r=.bool true):=by
 have:=uN v w a b
 rw [decide_eq_true h] at this
 exact this
theorem rowsT (v w:Value) (a b:List (List Int)) (h:a=b):Meets Tryz.prog 20 [v,w] [(v,wd a),(w,wd b)] (fun r os fs=>os=[]∧fs=[]∧r=.bool true):=by
 subst h
 have:=vX v w (a.map (·.map cn)) (a.map (·.map cn))
 rw [decide_eq_true rfl] at this
 exact this
theorem sh7_shape:Meets Tryz.prog 15 [.int .i64 2,.int .i64 1] [] (fun r os fs=>os=[]∧∃ q,r=.tuple #[q,.int .i64 0]∧fs=[(q,ShD [(0,0),(1,0),(2,0),(0,1)])]):=by
 have h:=mI 2 1 (by simp only [inK]; omega) (by simp only [inK]; omega)
 rw [show shpR 2 1=([(0,0),(1,0),(2,0),(0,1)],0) by decide] at h
 exact h
theorem sh7_mat (v w u z:Value):Meets Tryz.prog 17 [v,w,u,z,.int .i64 1] [(v,vd [3,5]),(w,zd 100),(u,zd 4),(z,zd 2)] (fun r os fs=>os=[]∧∃ q,r=.tuple #[q,.int .i64 0]∧fs=[(q,wd [[100,0,0],[0,400,0],[3,20, -2]])]):=by
 have h:=lJ v w u z (([3,5]:List Int).map cn) (cn 100) (cn 4) (cn 2) 1 1 1 (fit7 qE) qE qE qE (aY _) (sm7 100 qE).len (aY _) (sm7 4 qE).len (aY _) (sm7 2 qE).len qE qE (by simp only [inK]; omega)
 rw [fH,eG,eG,eG,show matR [3,5] 100 4 2 1=([[100,0,0],[0,400,0],[3,20, -2]],0) by decide +kernel] at h
 exact h
theorem sh7_all (v w u z:Value):Meets Tryz.prog 24 [v,w,u,z] [(v,vd [3,5]),(w,zd 100),(u,zd 25),(z,zd 2)] (fun r os fs=>os=[]∧∃ q,r=.tuple #[q,.int .i64 0]∧fs=[(q,vd [-21, -1,19])]):=by
 have h:=slzAll_meets v w u z (([3,5]:List Int).map cn) (cn 100) (cn 25) (cn 2) 1 1 (fit7 qE) qE qE (aY _) (sm7 100 qE).len (aY _) (sm7 25 qE).len (aY _) (sm7 2 qE).len qE
 rw [fH,eG,eG,eG,show allR [3,5] 100 25 2=([-21, -1,19],0) by decide +kernel] at h
 exact h
theorem sh7_with (v w u z:Value):Meets Tryz.prog 13 [v,w,u,z] [(v,vd [3,5]),(w,zd 100),(u,zd 2),(z,zd 19)] (fun r os fs=>os=[]∧fs=[]∧r=.tuple #[.bool true,.int .i64 0]):=by
 have h:=vQ v w u z (([3,5]:List Int).map cn) (cn 100) (cn 2) (cn 19) 1 1 (fit7 qE) qE qE (aY _) (sm7 100 qE).len (aY _) (sm7 2 qE).len (aY _) (sm7 19 qE).len qE
 rw [fH,eG,eG,eG,show sS [3,5] 100 2 19=(true,0) by decide +kernel] at h
 exact h
theorem sh7_lil:Lil [222,389] 1000 5 1 1 1:=⟨by decide,by decide,by decide,by decide,by decide,by decide,fun x hx=>sm7 x (by revert x; decide),by decide,sm7 _ qE,sm7 _ qE,sm7 _ qE⟩
theorem sh7_R:lR [222,389] 1000 5 1 1 1=[[4, -10,18],[-82,205,131],[882,295, -31]]:=by
 have h1:=sh7_lil.red
 have h2:=lred_cn (M:=lA [222,389] 1000 5 1 1 1) (f:=40) (R1:=[[4, -10,18],[-82,205,131],[882,295, -31]]) (R2:=[[4,7, -18],[29,51, -131],[-6, -12,31]]) (by decide +kernel) (by decide +kernel) (by decide +kernel)
 rw [h1] at h2
 exact congrArg (·.1) h2
theorem sh7_F:lF [222,389] 1000 5 1 1 1=([-2000,1000],true):=by
 unfold lF
 rw [sh7_R]
 decide +kernel
theorem rise_one {a:Int}:∀ {l:List Int},Rise l→(∀ t,t∈l↔t=a)→l=[a]
 | [],_,h=>absurd ((h a).2 rfl) qP
 | [b],_,h=>by rw [(h b).1 qP]
 | b::c::l,hr,h=>by
  have h1:=(h b).1 qP
  have h2:=(h c).1 qP
  have h3:=hr.1 c qP
  omega
theorem sh7_L {L:List Int} {dec:Bool} (h:SolveOk [222,389] 1000 5 1 1 1 L dec):dec=true∧L=[2]:=by
 have h0:=h.ok
 rw [sh7_F] at h0
 obtain ⟨h1,O,e,h2,rfl⟩:=h0 rfl
 obtain ⟨h3,h4,_⟩:=in_all h2 qE qE
 refine ⟨h1,rise_one (h3.filter _) fun t=>?_⟩
 rw [List.mem_filter,h4]
 constructor
 ·rintro ⟨⟨g1,g2,g3⟩,_⟩
  have:t = -5∨t = -4∨t = -3∨t = -2∨t = -1∨t=0∨t=1∨t=2∨t=3∨t=4∨t=5:=by omega
  rcases this with rfl | rfl | rfl | rfl | rfl | rfl | rfl | rfl | rfl | rfl | rfl <;> first | rfl | exact absurd g3 qE
 ·rintro rfl
  exact ⟨⟨by decide,by decide,by decide⟩,by decide +kernel⟩
theorem sh7_solve (v w u z:Value):Meets Tryz.prog 28 [v,w,u,z,.int .i64 1] [(v,vd [222,389]),(w,zd 1000),(u,zd 5),(z,zd 1)] (fun r os fs=>os=[]∧∃ q,r=.tuple #[q,.bool true,.int .i64 0]∧fs=[(q,vd [2])]):=by
 have h:=slzSolve_ok v w u z (([222,389]:List Int).map cn) (cn 1000) (cn 5) (cn 1) 1 1 (fit7 qE) (aY _) (sm7 1000 qE).len (aY _) (sm7 5 qE).len (aY _) (sm7 1 qE).len (by rw [fH,eG,eG,eG]; exact sh7_lil)
 rw [fH,eG,eG,eG] at h
 refine h.mono ?_
 rintro r os fs ⟨h1,q,L,dec,h2,h3,h4⟩
 obtain ⟨rfl,rfl⟩:=sh7_L h3
 exact ⟨h1,q,h2,h4⟩
theorem shown7_meets:Meets Tryz.prog 10 [] [] (fun r os fs=>os=[]∧fs=[]∧r=.bool true):=by
 refine mV Tryz.func10 ?_
 refine wP [3,5] rfl rfl qE fun s1=>?_
 refine cG (lM s1 [3,5] qE qE) fun p=>?_
 refine cF (sh7_shape) ?_
 rintro _ _ _ ⟨rfl,sh,rfl,rfl⟩
 refine cG (fJ 100 qE qE) fun n1=>?_
 refine cG (fJ 4 qE qE) fun n2=>?_
 refine cG (fJ 2 qE qE) fun n3=>?_
 refine cF (sh7_mat p n1 n2 n3) ?_
 rintro _ _ _ ⟨rfl,mt,rfl,rfl⟩
 refine cG (fJ 100 qE qE) fun n4=>?_
 refine cG (fJ 25 qE qE) fun n5=>?_
 refine cG (fJ 2 qE qE) fun n6=>?_
 refine cF (sh7_all p n4 n5 n6) ?_
 rintro _ _ _ ⟨rfl,al,rfl,rfl⟩
 refine cG (fJ 100 qE qE) fun n7=>?_
 refine cG (fJ 2 qE qE) fun n8=>?_
 refine cG (fJ 19 qE qE) fun n9=>?_
 refine cH (sh7_with p n7 n8 n9) ?_
 refine wP [222,389] rfl rfl qE fun s2=>?_
 refine cG (lM s2 [222,389] qE qE) fun p2=>?_
 refine cG (fJ 1000 qE qE) fun n10=>?_
 refine cG (fJ 5 qE qE) fun n11=>?_
 refine cG (fJ 1 qE qE) fun n12=>?_
 refine cF (sh7_solve p2 n10 n11 n12) ?_
 rintro _ _ _ ⟨rfl,so,rfl,rfl⟩
 refine m4 ?_
 refine m4 ?_
 refine m4 ?_
 refine m4 ?_
 refine cV (size:=2) (n:=4) [spot 0 0,spot 1 0,spot 2 0,spot 0 1] [spE (0,0),spE (1,0),spE (2,0),spE (0,1)] rfl rfl qE qE ⟨Reads.spot _ _,rfl,Reads.spot _ _,rfl,Reads.spot _ _,rfl,Reads.spot _ _,rfl,trivial⟩ fun l1=>?_
 refine CallK.pre (bA (v:=l1) (d:=ShD [(0,0),(1,0),(2,0),(0,1)]) (Knw.cast (Knw.sl_cong (e':=fun i=>spE (([(0,0),(1,0),(2,0),(0,1)]:List (Nat×Nat)).getD i (0,0))) (a9 (List.Mem.head _)) fun i hi=>?_) rfl) (aA fun _ hF=>.tail _ hF)) ?_
 ·match i,hi with
  | 0,_=>rfl
  | 1,_=>rfl
  | 2,_=>rfl
  | 3,_=>rfl
 refine cH (shapeT sh l1 _ _ rfl) ?_
 refine wP [100,0,0] rfl rfl qE fun s3=>?_
 refine cG (lM s3 [100,0,0] qE qE) fun r1=>?_
 refine wP [0,400,0] rfl rfl qE fun s4=>?_
 refine cG (lM s4 [0,400,0] qE qE) fun r2=>?_
 refine wP [3,20, -2] rfl rfl qE fun s5=>?_
 refine cG (lM s5 [3,20, -2] qE qE) fun r3=>?_
 refine cV (size:=1) (n:=3) [r1,r2,r3] [vd [100,0,0],vd [0,400,0],vd [3,20, -2]] rfl rfl qE qE ⟨aB qM,rfl,aB qM,rfl,aB qM,rfl,trivial⟩ fun l2=>?_
 refine CallK.pre (bA (v:=l2) (d:=wd [[100,0,0],[0,400,0],[3,20, -2]]) (Knw.cast (Knw.sl_cong (e':=fun i=>V (([[100,0,0],[0,400,0],[3,20, -2]]:List (List Int)).map (·.map cn) |>.getD i [])) (a9 (List.Mem.head _)) fun i hi=>?_) rfl) (aA fun _ hF=>.tail _ hF)) ?_
 ·match i,hi with
  | 0,_=>rfl
  | 1,_=>rfl
  | 2,_=>rfl
 refine cH (rowsT mt l2 _ _ rfl) ?_
 refine wP [-21, -1,19] rfl rfl qE fun s6=>?_
 refine cG (lM s6 [-21, -1,19] qE qE) fun r4=>?_
 refine cH (exallT al r4 _ _ rfl) ?_
 refine wP [2] rfl rfl qE fun s7=>?_
 refine cG (lM s7 [2] qE qE) fun r5=>?_
 refine cH (exallT so r5 _ _ rfl) ?_
 refine cJ rfl rfl ?_
 refine cJ rfl rfl ?_
 refine cJ rfl rfl ?_
 refine cJ rfl rfl ?_
 refine cJ rfl rfl ?_
 exact fin ⟨rfl,rfl,rfl⟩ (aL _ _)
theorem mR {P:Program} {ty:TypeId} {x v:Value} {d:Dat} {size:Nat} {e:Nat→Dat} {os:List Own} {fs:List bI} {K:cC} (hb:kY v)
  (hd:d.cells=size) (ht:(P.info? ty).map (·.size)=some size) (hx:Reads (bK v size 1 e::os) fs x d)
  (k':K undef os ((v,.ptr d)::fs)):StoreK P ty v x (bK v size 1 e::os) fs K :=
 ⟨fun G w hw=>((aF (K:=fun u os' fs'=>∃ os'' fs'',Seals os' fs' os'' fs''∧K u os'' fs'') 0 rfl hb hd ht hx ⟨_,_,Seals.box (os:=bK v size 1 (upd e 0 d)::os) 0 rfl hb rfl,k'⟩).out G w hw).mono fun _ _ ⟨_,_,⟨o2,f2,hs,hk⟩,hh⟩=>⟨o2,f2,hk,hs _ _ hh⟩⟩
theorem lil_of {p:Row} {m t y:Bool×List Nat} {n:Int} (hp:limR p) (hm:Lim m.2) (ht:Lim t.2) (hy:Lim y.2) (h:smallR 4 1 p∧m.2.length≤1∧t.2.length≤1∧y.2.length≤1∧n≤2∧(1≤n→((dg (vv p):Nat) - 1:Int)*n≤4))
  (hok:tW (vv p) (jv m) (jv t) (jv y) n):∃ d k:Nat,n=(k:Int)∧Lil (vv p) (jv m) (jv t) (jv y) d k:=by
 obtain ⟨h1,h2,h3,h4,h5,h6⟩:=h
 have hs:=hok.1
 unfold shpR at hs
 split at hs
 ·simp at hs
 rename_i hb
 simp only [not_or,Int.not_lt] at hb
 have hf:=h1.fit hp
 refine ⟨dg (vv p) - 1,n.toNat,by omega,⟨by rw [Int.toNat_of_nonneg qN]; exact hok,by omega,by omega,by omega,?_,by omega,hf.szR,by rw [cP]; exact h1.1,fZ hm h2,fZ ht h3,fZ hy h4⟩⟩
 have h7:=h6 hb.2.1
 have e:((dg (vv p):Nat) - 1:Int)*n=((((dg (vv p) - 1)*n.toNat:Nat)):Int):=by
  rw [Int.natCast_mul,Int.toNat_of_nonneg qN,Int.natCast_sub qN]; rfl
 omega
theorem sh_deg {P:List Int} {m t y:Int} {d k:Nat} (hl:Lil P m t y d k):shpR ((dg P:Nat) - 1:Int) (k:Int)=(shp d k,0):=by
 have h:=hl.ok.1
 unfold shpR at h ⊢
 split at h
 ·simp at h
 rename_i hb
 rw [if_neg hb,hl.dg]
 congr 2 <;> omega
theorem lit_W2 {P:Program} {t e:TypeId} {bytes:Nat} {os:List Own} {fs:List bI} {K:cC} [ht:TSl P t e 1] [he:TEl P e 1 bytes] {x y:Value} (R S:List Int) (hx:Reads os fs x (vd R)) (hy:Reads os fs y (vd S)) (k:∀ v,K v os ((v,wd [R,S])::fs)):BuildSliceK P t 2 [(0,x),(1,y)] os fs K:=by
 have h1:=cV (P:=P) (t:=t) (os:=os) (fs:=fs) (K:=fun u os' fs'=>∃ os'' fs'',Seals os' fs' os'' fs''∧K u os'' fs'') (n:=2) [x,y] [vd R,vd S] rfl rfl qE qE ⟨hx,rfl,hy,rfl,trivial⟩
 refine ⟨Grw.sealed (h1 fun v=>⟨_,_,?_,k v⟩).out⟩
 exact Seals.knw_cong rfl fun i hi=>by
  match i,hi with
  | 0,_=>rfl
  | 1,_=>rfl
theorem lil_grid {m t y:Bool×List Nat} {P:List Int} {d k:Nat} (hl:Lil P (jv m) (jv t) (jv y) d k) (ht:Lim t.2) (hta:t.2.length≤1) (hy:Lim y.2) (hya:y.2.length≤1) {R:List Int} (lR:R.length=(shp d k).length) (zR:szR 4000 R) (v w u z:Value) :
  Meets Tryz.prog 31 [v,w,u,z] [(v,vd R),(w,ShD (shp d k)),(u,J t),(z,J y)] (fun r os fs=>os=[]∧fs=[(r,wd (i7 (shp d k) (fA (jv t)) (fA (jv y)) R))]) :=
 rGrid17_meets v w u z R (shp d k) t y 4000 1 10 (q7 d k) (fun p hp=>by have:=hl.small hp; omega) (by have:=hl.len; omega) lR zR qE ht hta hy hya qE (fun p hp=>hl.scl hp) qE
theorem lil_gridLg {m t y:Int} {P:List Int} {d k:Nat} (hl:Lil P m t y d k) {R:List Int} (zR:szR 4000 R):Lg (toW (i7 (shp d k) (fA t) (fA y) R)) (i7 (shp d k) (fA t) (fA y) R) 4000 24 :=
 gridV_lg (fun p hp=>by have:=hl.small hp; omega) qE zR
theorem Lil.asz {m t y:Int} {P:List Int} {d k:Nat} (hl:Lil P m t y d k) {i:Nat} (hi:i<(shp d k).length):szR 4000 ((lA P m t y d k).getD i []):=fun x hx =>
 (hl.szM _ (cR [] (by rw [lA_len]; exact hi)) x hx).mono qE
theorem vJ (v v1 v2:Value) (p:Row) (m t y:Bool×List Nat) (n:Int) (x u:Bool×List Nat) (hp:limR p) (hm:Lim m.2) (ht:Lim t.2) (hy:Lim y.2) (hn:inK .i64 n) (hx:Lim x.2) (hu:Lim u.2) :
  Meets Tryz.prog 8 [v,v1,v2] [(v,l4 p m t y n),(v1,J x),(v2,J u)] (fun r os fs=>os=[]∧fs=[]∧r=.bool true):=by
 refine mV Tryz.func8 ?_
 refine iO (aB (v:=v) (d:=l4 p m t y n) qM) fun bq=>?_
 refine iO (aB (v:=v1) (d:=J x) qM) fun bx=>?_
 refine iO (aB (v:=v2) (d:=J u) qM) fun bk=>?_
 refine cH (shown7_meets) ?_
 refine aM (p:=bq) (d:=l4 p m t y n) qM (load_ask _ _ _ _ _) fun yf=>?_
 refine cF (little7_meets yf p m t y n hn hp) ?_
 rintro _ _ _ ⟨rfl,rfl,b,rfl,hb⟩
 cases b
 ·
  exact fin ⟨rfl,rfl,rfl⟩ (aL _ _)
 ·
  have hb':=hb rfl
  obtain ⟨h4,hm2,ht2,hy2,hn2,_⟩:=hb'
  have hf:=h4.fit hp
  have lp:=h4.1
  refine bT (p:=bx) (off:=1) (d:=J x) (d':=U x.2) qM (aS (aJ _)) fun a2=>?_
  refine aM (p:=a2) (d:=U x.2) qM (cU _) fun u1=>?_
  refine aO (v:=u1) (n:=x.2.length) qM fun _=>?_
  refine aE _ rfl (fun hx2=>?_) (fun hx2=>?_)
  ·
   exact fin ⟨rfl,rfl,rfl⟩ (aL _ _)
  refine bT (p:=bk) (off:=1) (d:=J u) (d':=U u.2) qM (aS (aJ _)) fun a2=>?_
  refine aM (p:=a2) (d:=U u.2) qM (cU _) fun u2=>?_
  refine aO (v:=u2) (n:=u.2.length) qM fun _=>?_
  refine aE _ rfl (fun hu2=>?_) (fun hu2=>?_)
  ·
   exact fin ⟨rfl,rfl,rfl⟩ (aL _ _)
  have hx1:x.2.length≤1:=by omega
  have hu1:u.2.length≤1:=by omega
  have hmx:=fun z1 z2 z3 z4=>lJ z1 z2 z3 z4 p m t y n 1 1 hf qN qE qE hm hm2 ht ht2 hy hy2 qE qE hn
  refine bT (p:=bq) (d:=l4 p m t y n) qM (pt_p p m t y n) fun a1=>?_
  refine aM (p:=a1) (d:=V p) qM (jL _) fun y1=>?_
  refine bT (p:=bq) (d:=l4 p m t y n) qM (pt_m p m t y n) fun a1=>?_
  refine aM (p:=a1) (d:=J m) qM (a8 _) fun y2=>?_
  refine bT (p:=bq) (d:=l4 p m t y n) qM (pt_t p m t y n) fun a1=>?_
  refine aM (p:=a1) (d:=J t) qM (a8 _) fun y3=>?_
  refine bT (p:=bq) (d:=l4 p m t y n) qM (pt_y p m t y n) fun a1=>?_
  refine aM (p:=a1) (d:=J y) qM (a8 _) fun y4=>?_
  refine bT (p:=bq) (d:=l4 p m t y n) qM (pt_n p m t y n) fun a1=>?_
  refine bF (p:=a1) qM ?_
  by_cases hok:tW (vv p) (jv m) (jv t) (jv y) n
  case neg =>
   rw [show matR (vv p) (jv m) (jv t) (jv y) n=([],1) from if_neg hok] at hmx
   refine cF (hmx y1 y2 y3 y4) ?_
   rintro _ _ _ ⟨rfl,q1,rfl,rfl⟩
   refine cJ rfl qE ?_
   refine cJ rfl rfl ?_
   refine aO (v:=q1) (n:=0) qM fun _=>?_
   refine cJ rfl rfl ?_
   exact fin ⟨rfl,rfl,rfl⟩ (aL _ _)
  obtain ⟨d,k,hnk,hl⟩:=lil_of hp hm ht hy (hb rfl) hok
  have hmat:=hl.mat
  rw [← hnk] at hmat
  rw [hmat] at hmx
  clear hmat
  have h9:=hl.len
  have zx:=fZ hx hx1
  have zu:=fZ hu hu1
  have hdd:=fun z=>uU z p (hf.mono qE)
  have hsh:=mI ((dg (vv p):Nat) - 1:Int) n (by simp only [inK]; have:=dI (vv p); rw [cP] at this; omega) hn
  have hsd:=sh_deg hl
  rw [← hnk] at hsd
  rw [hsd] at hsh
  clear hsd
  have hrd:∀ y1,Meets Tryz.prog 30 [y1] [(y1,wd (lA (vv p) (jv m) (jv t) (jv y) d k))] (fun r os fs=>os=[]∧∃ q w,r=.tuple #[q,w,.int .i64 0]∧fs=[(q,wd (lR (vv p) (jv m) (jv t) (jv y) d k)),(w,wd (M2 (lW (vv p) (jv m) (jv t) (jv y) d k)))]):=fun y1=>by
   have:=lReduceT y1 (lW (vv p) (jv m) (jv t) (jv y) d k) 17 hl.fits qE (by rw [pR]; omega) (by rw [hl.wrow0]; omega) (by rw [pR]; exact (lK_le h9).2)
   rw [hl.red] at this
   exact this
  have hpv:=fun z1 z2=>rValueJ z1 z2 p x 1 1 hf hx hx1 qN qN
  have zpv:sz (pev (vv p) (jv x)) 20:=(xI hf.szR zx).mono (by rw [cP]; omega)
  have hkm:=fun z1 z2=>rMulJ z1 z2 u m hu qN hm qN
  have zkm:sz (jv u*jv m) 20:=(zu.mul (fZ hm hm2)).mono qE
  have had:∀ z1 z2,Meets Tryz.prog 36 [z1,z2] [(z1,zd (pev (vv p) (jv x))),(z2,zd (jv u*jv m))] (fun r os fs=>os=[]∧fs=[(r,zd (pev (vv p) (jv x)+jv u*jv m))]):=fun z1 z2=>by
   have:=rAddJ z1 z2 (cn (pev (vv p) (jv x))) (cn (jv u*jv m)) (aY _) (Nat.le_trans zpv.len qE) (aY _) (Nat.le_trans zkm.len qE)
   rw [eG,eG] at this
   exact this
  have zy:sz (pev (vv p) (jv x)+jv u*jv m) 21:=by
   have:=kT zpv zkm.neg
   rwa [Int.sub_neg] at this
  have hpw:=fun z=>rPowerJ z m k 1 hm hm2 (by have:(k+1)*(1+1)≤3*(1+1):=Nat.mul_le_mul_right _ qN; omega)
  rw [← hnk] at hpw
  have hmk:sz (jv m^k) 3:=hl.hm
  have hm0:jv m^k≠0:=by
   have h0:0<jv m^k:=Int.pow_pos (by have:=hl.pos.1; omega)
   omega
  have hdv:jv m ∣ pev (vv p) (jv x) - (pev (vv p) (jv x)+jv u*jv m):=⟨-jv u,by grind⟩
  have hRl:=hl.rlen
  have hAl:=lA_len (vv p) (jv m) (jv t) (jv y) d k
  have hg:∀ R:List Int,R.length=(shp d k).length→szR 4000 R→(∃ U,Comb (vv p) (jv m) d k (fA (jv t)) (fA (jv y)) U R)→∃ G:List (List Int),(∀ z1 z2 z3 z4,Meets Tryz.prog 31 [z1,z2,z3,z4] [(z1,vd R),(z2,ShD (shp d k)),(z3,J t),(z4,J y)] (fun r os fs=>os=[]∧fs=[(r,wd G)])) ∧
    ∃ Q:Int,(∀ z1 z2 z3,Meets Tryz.prog 43 [z1,z2,z3] [(z1,wd G),(z2,J x),(z3,zd (pev (vv p) (jv x)+jv u*jv m))] (fun r os fs=>os=[]∧fs=[(r,zd (Q*jv m^k))]))∧sz (Q*jv m^k) 100000:=fun R lR zR ⟨U,hc⟩=>by
   obtain ⟨Q,hQ⟩:=hc.mult hl.sz hdv
   have hv:=fun z1 z2 z3=>rValue12_meets z1 z2 z3 (x:=x) (y:=cn (pev (vv p) (jv x)+jv u*jv m)) (j:=21) (lil_gridLg hl zR) hx qN (aY _) zy.len qE qE
   rw [eG] at hv
   refine ⟨_,lil_grid hl ht ht2 hy hy2 lR zR,Q,?_,?_⟩
   ·rw [(Int.mul_comm _ _).trans hQ.symm]; exact hv
   ·rw [(Int.mul_comm _ _).trans hQ.symm]
    exact ((lil_gridLg hl zR).ev (zx.mono qE) zy).mono qE
  have hgA:=fun i (hi:i<(shp d k).length)=>hg ((lA (vv p) (jv m) (jv t) (jv y) d k).getD i []) (by rw [lA_row hi,uT]) (hl.asz hi) ⟨_,hl.combA hi⟩
  have hgR:=fun i (hi:i<(shp d k).length)=>hg ((lR (vv p) (jv m) (jv t) (jv y) d k).getD i []) (hl.rrow hi) (hl.rsz hi) ⟨_,hl.comb hi⟩
  clear hg hl hb hok
  generalize lA (vv p) (jv m) (jv t) (jv y) d k=A at *
  generalize lR (vv p) (jv m) (jv t) (jv y) d k=R at *
  generalize M2 _=M2' at *
  generalize shp d k=S at *
  refine cF (hmx y1 y2 y3 y4) ?_
  rintro _ _ _ ⟨rfl,q1,rfl,rfl⟩
  refine bR rfl (fun h=>h rfl) ?_
  refine a0 [0,1,3,4,2,5,6,7,8,9,10] [0,1,2,3,4,5,6,7,9,8,10] qK qK ?_
  refine bT (p:=bq) (d:=l4 p m t y n) qM (pt_p p m t y n) fun a1=>?_
  refine aM (p:=a1) (d:=V p) qM (jL _) fun w1=>?_
  refine bT (p:=bq) (d:=l4 p m t y n) qM (pt_n p m t y n) fun a1=>?_
  refine bF (p:=a1) qM ?_
  refine cH (hdd w1) ?_
  refine cF (hsh) ?_
  rintro _ _ _ ⟨rfl,q2,rfl,rfl⟩
  refine cF (hrd q1) ?_
  rintro _ _ _ ⟨rfl,q3,q4,rfl,rfl⟩
  refine bR rfl (fun h=>h rfl) ?_
  refine aO (v:=q3) (n:=(R.map (·.map cn)).length) qM fun _=>?_
  refine aO (v:=q1) (n:=(A.map (·.map cn)).length) qM fun _=>?_
  refine bR rfl (by simp only [List.length_map]; omega) ?_
  refine aO (v:=q2) (n:=S.length) qM fun _=>?_
  refine aO (v:=q1) (n:=(A.map (·.map cn)).length) qM fun _=>?_
  refine bR rfl (by simp only [List.length_map]; omega) ?_
  refine iI (X:=Value) (fun ba=>([(3,bq),(4,bx),(7,.bool true),(8,q1),(10,q2),(12,q3),(15,ba)],[],[(ba,.ptr (zd (pev (vv p) (jv x)+jv u*jv m))),(q1,wd A),(q2,ShD S),(q3,wd R),(bq,.ptr (l4 p m t y n)),(bx,.ptr (J x))])) (fun _=>True) ?_ ?_
  ·
   refine eN [0,1,2,3,4,5,6,7,8,9,10] qK ?_
   refine a7 3 9 qK qK qK ?_ ?_
   ·refine a7 7 9 qK qK qK ?_ ?_
    ·refine a7 8 9 qK qK qK ?_ ?_
     ·refine cB [0,1,2,4,5,6,3,7,8,9,10] qK qK ?_
      refine bT (p:=bq) (d:=l4 p m t y n) qM (pt_p p m t y n) fun a1=>?_
      refine aM (p:=a1) (d:=V p) qM (jL _) fun x1=>?_
      refine aM (p:=bx) (d:=J x) qM (a8 _) fun x2=>?_
      refine aM (p:=bk) (d:=J u) qM (a8 _) fun x3=>?_
      refine bT (p:=bq) (d:=l4 p m t y n) qM (pt_m p m t y n) fun a1=>?_
      refine aM (p:=a1) (d:=J m) qM (a8 _) fun x4=>?_
      refine cG (hpv x1 x2) fun x5=>?_
      refine cG (hkm x3 x4) fun x6=>?_
      refine cG (had x5 x6) fun x7=>?_
      refine aH (d:=I false []) fun ba hba=>?_
      refine mR (d:=zd (pev (vv p) (jv x)+jv u*jv m)) hba rfl qK (aB (v:=x7) qM) ?_
      exact aU ba trivial trivial qF (aA qS)
     ·refine cB [0,1,2,4,5,6,3,7,9,8,10] qK qK ?_
      refine bT (p:=bq) (d:=l4 p m t y n) qM (pt_p p m t y n) fun a1=>?_
      refine aM (p:=a1) (d:=V p) qM (jL _) fun x1=>?_
      refine aM (p:=bx) (d:=J x) qM (a8 _) fun x2=>?_
      refine aM (p:=bk) (d:=J u) qM (a8 _) fun x3=>?_
      refine bT (p:=bq) (d:=l4 p m t y n) qM (pt_m p m t y n) fun a1=>?_
      refine aM (p:=a1) (d:=J m) qM (a8 _) fun x4=>?_
      refine cG (hpv x1 x2) fun x5=>?_
      refine cG (hkm x3 x4) fun x6=>?_
      refine aH (d:=I false []) fun ba hba=>?_
      refine cG (had x5 x6) fun x7=>?_
      refine mR (d:=zd (pev (vv p) (jv x)+jv u*jv m)) hba rfl qK (aB (v:=x7) qM) ?_
      exact aU ba trivial trivial qF (aA qS)
    ·refine cB [0,1,2,4,5,6,3,9,7,8,10] qK qK ?_
     refine bT (p:=bq) (d:=l4 p m t y n) qM (pt_p p m t y n) fun a1=>?_
     refine aM (p:=a1) (d:=V p) qM (jL _) fun x1=>?_
     refine aM (p:=bx) (d:=J x) qM (a8 _) fun x2=>?_
     refine aM (p:=bk) (d:=J u) qM (a8 _) fun x3=>?_
     refine bT (p:=bq) (d:=l4 p m t y n) qM (pt_m p m t y n) fun a1=>?_
     refine aM (p:=a1) (d:=J m) qM (a8 _) fun x4=>?_
     refine cG (hpv x1 x2) fun x5=>?_
     refine aH (d:=I false []) fun ba hba=>?_
     refine cG (hkm x3 x4) fun x6=>?_
     refine cG (had x5 x6) fun x7=>?_
     refine mR (d:=zd (pev (vv p) (jv x)+jv u*jv m)) hba rfl qK (aB (v:=x7) qM) ?_
     exact aU ba trivial trivial qF (aA qS)
   ·refine cB [0,1,2,4,5,6,9,3,7,8,10] qK qK ?_
    refine bT (p:=bq) (d:=l4 p m t y n) qM (pt_p p m t y n) fun a1=>?_
    refine aM (p:=a1) (d:=V p) qM (jL _) fun x1=>?_
    refine aM (p:=bx) (d:=J x) qM (a8 _) fun x2=>?_
    refine aM (p:=bk) (d:=J u) qM (a8 _) fun x3=>?_
    refine bT (p:=bq) (d:=l4 p m t y n) qM (pt_m p m t y n) fun a1=>?_
    refine aM (p:=a1) (d:=J m) qM (a8 _) fun x4=>?_
    refine aH (d:=I false []) fun ba hba=>?_
    refine cG (hpv x1 x2) fun x5=>?_
    refine cG (hkm x3 x4) fun x6=>?_
    refine cG (had x5 x6) fun x7=>?_
    refine mR (d:=zd (pev (vv p) (jv x)+jv u*jv m)) hba rfl qK (aB (v:=x7) qM) ?_
    exact aU ba trivial trivial qF (aA qS)
  rintro ba -
  simp only
  refine bT (p:=bq) (d:=l4 p m t y n) qM (pt_m p m t y n) fun a1=>?_
  refine aM (p:=a1) (d:=J m) qM (a8 _) fun w2=>?_
  refine bT (p:=bq) (d:=l4 p m t y n) qM (pt_n p m t y n) fun a1=>?_
  refine bF (p:=a1) qM ?_
  refine cG (hpw w2) fun w3=>?_
  refine aH (d:=I false []) fun bp hbp=>?_
  refine mR (d:=zd (jv m^k)) hbp rfl qK (aB (v:=w3) qM) ?_
  have hdm:=fun z1 z2 Q (hQ:sz (Q*jv m^k) 100000)=>rDivModZ z1 z2 (Q*jv m^k) (jv m^k) 100000 hQ (hmk.mono qE) qE hm0
  have hmod:∀ Q:Int,Q*jv m^k%jv m^k=0:=fun Q=>Int.mul_emod_left _ _
  clear hpw hrd hsh hmx hdd hpv hkm had
  generalize hYY:pev (vv p) (jv x)+jv u*jv m=Y at *
  generalize jv m^k=M at *
  refine aT (X:=Nat) (fun i=>([(3,bq),(4,bx),(7,.bool true),(8,q1),(10,q2),(12,q3),(15,ba),(16,bp),(17,.int .i64 (i:Nat))],[],[(bp,.ptr (zd M)),(ba,.ptr (zd Y)),(q1,wd A),(q2,ShD S),(q3,wd R),(bq,.ptr (l4 p m t y n)),(bx,.ptr (J x))])) (fun i=>i≤A.length) (fun i=>A.length - i) rfl ?_ ?_
  ·exact aU 0 (Nat.zero_le _) trivial qF (aA qS)
  intro i hi
  simp only at hi ⊢
  refine aO (v:=q1) (n:=(A.map (·.map cn)).length) qM fun hmx=>?_
  rw [List.length_map] at hmx ⊢
  refine aE _ rfl (fun hlt=>?_) (fun hlt=>?_)
  ·have hiA:i<A.length:=by omega
   have g1:=hgA i qN
   have g2:=hgR i qN
   have hcA:=rY A i
   have hcR:=rY R i
   refine a0 [0,1,2,3,4,5,6,7,10,8,9] [0,1,2,3,4,5,6,7,8,9,10] qK qK ?_
   refine aK (v:=q1) qM i rfl (by rw [List.length_map]; exact hiA) fun a1=>?_
   refine aM (d:=V ((A.map (·.map cn)).getD i [])) qM (jK _) fun r1=>?_
   refine aK (v:=q3) qM i rfl (by rw [List.length_map]; omega) fun a2=>?_
   refine aM (d:=V ((R.map (·.map cn)).getD i [])) qM (jK _) fun r2=>?_
   rw [hcA,hcR]
   refine lit_W2 (A.getD i []) (R.getD i []) (aB (v:=r1) qM) (aB (v:=r2) qM) fun l1=>?_
   refine aO (v:=l1) (n:=2) qM fun _=>?_
   refine aT (X:=Nat) (fun j=>([(3,bq),(4,bx),(7,.bool true),(8,q1),(10,q2),(12,q3),(15,ba),(16,bp),(17,.int .i64 (i:Nat)),(126,l1),(127,.int .i64 2),(128,.int .i64 (j:Nat))],[],[(l1,wd [A.getD i [],R.getD i []]),(bp,.ptr (zd M)),(ba,.ptr (zd Y)),(q1,wd A),(q2,ShD S),(q3,wd R),(bq,.ptr (l4 p m t y n)),(bx,.ptr (J x))])) (fun j=>j≤2) (fun j=>2 - j) rfl ?_ ?_
   ·exact aU 0 (Nat.zero_le _) trivial qF (aA qS)
   intro j hj
   simp only at hj ⊢
   refine aE _ rfl (fun hl2=>?_) (fun hl2=>?_)
   ·have hj2:j<2:=by omega
    have hRow:∃ r:List Int,([A.getD i [],R.getD i []].map (·.map cn)).getD j []=r.map cn∧∃ G:List (List Int),(∀ z1 z2 z3 z4,Meets Tryz.prog 31 [z1,z2,z3,z4] [(z1,vd r),(z2,ShD S),(z3,J t),(z4,J y)] (fun r os fs=>os=[]∧fs=[(r,wd G)])) ∧
      ∃ Q:Int,(∀ z1 z2 z3,Meets Tryz.prog 43 [z1,z2,z3] [(z1,wd G),(z2,J x),(z3,zd Y)] (fun r os fs=>os=[]∧fs=[(r,zd (Q*M))]))∧sz (Q*M) 100000:=by
     match j,hj2 with
     | 0,_=>exact ⟨_,rfl,g1⟩
     | 1,_=>exact ⟨_,rfl,g2⟩
    obtain ⟨r,hr,G,hgr,Q,hval,hQ⟩:=hRow
    have hdm:=fun z1 z2=>hdm z1 z2 Q hQ
    have hmod:=hmod Q
    refine aK (v:=l1) qM j rfl (by simpa using hj2) fun a3=>?_
    refine aM (d:=V (([A.getD i [],R.getD i []].map (·.map cn)).getD j [])) qM (jK _) fun r3=>?_
    rw [hr]
    clear g1 g2 hgA hgR hcA hcR
    refine bT (p:=bq) (d:=l4 p m t y n) qM (pt_t p m t y n) fun a1=>?_
    refine aM (p:=a1) (d:=J t) qM (a8 _) fun w4=>?_
    refine bT (p:=bq) (d:=l4 p m t y n) qM (pt_y p m t y n) fun a1=>?_
    refine aM (p:=a1) (d:=J y) qM (a8 _) fun w5=>?_
    refine cG (hgr r3 q2 w4 w5) fun g1=>?_
    refine iI (X:=Value) (fun b2=>([(3,bq),(4,bx),(7,.bool true),(8,q1),(10,q2),(12,q3),(15,ba),(16,bp),(17,.int .i64 (i:Nat)),(22,b2),(126,l1),(127,.int .i64 2),(128,.int .i64 (j:Nat))],[bK b2 2 1 (fun _=>zd (Q*M%M))],[(l1,wd [A.getD i [],R.getD i []]),(bp,.ptr (zd M)),(ba,.ptr (zd Y)),(q1,wd A),(q2,ShD S),(q3,wd R),(bq,.ptr (l4 p m t y n)),(bx,.ptr (J x))])) kY ?_ ?_
    ·
     refine eN [0,1,2,3,4,5,6,7,10,11,12,8,13,9,14] qK ?_
     refine a7 3 10 qK qK qK ?_ ?_
     ·refine a7 3 11 qK qK qK ?_ ?_
      ·refine a7 5 10 qK qK qK ?_ ?_
       ·refine a7 5 11 qK qK qK ?_ ?_
        ·refine a7 10 11 qK qK qK ?_ ?_
         ·refine cB [0,1,2,4,3,5,6,7,8,9,10,11,12,13,14] qK qK ?_
          refine aM (p:=bx) (d:=J x) qM (a8 _) fun x2=>?_
          refine aM (p:=ba) (d:=zd Y) qM (aN _ _) fun x3=>?_
          refine aM (p:=bp) (d:=zd M) qM (aN _ _) fun x4=>?_
          refine cG (hval g1 x2 x3) fun g2=>?_
          refine cF (hdm g2 x4) ?_
          rintro _ _ _ ⟨rfl,g3,g4,rfl,rfl⟩
          refine aH (d:=I false []) fun b1 hb1=>?_
          refine aH (d:=I false []) fun b2 hb2=>?_
          refine aF (d:=zd (Q*M/M)) 1 rfl hb1 rfl qK (aB (v:=g3) qM) ?_
          refine aF (d:=zd (Q*M%M)) 0 rfl hb2 rfl qK (aB (v:=g4) qM) ?_
          exact aU b2 hb2 trivial qF (aC (aW 1 _ _) (aC (bB rfl) (aA qS)))
         ·refine cB [0,1,2,4,3,5,6,7,8,9,11,10,12,13,14] qK qK ?_
          refine aM (p:=bx) (d:=J x) qM (a8 _) fun x2=>?_
          refine aM (p:=ba) (d:=zd Y) qM (aN _ _) fun x3=>?_
          refine aM (p:=bp) (d:=zd M) qM (aN _ _) fun x4=>?_
          refine cG (hval g1 x2 x3) fun g2=>?_
          refine cF (hdm g2 x4) ?_
          rintro _ _ _ ⟨rfl,g3,g4,rfl,rfl⟩
          refine aH (d:=I false []) fun b2 hb2=>?_
          refine aH (d:=I false []) fun b1 hb1=>?_
          refine aF (d:=zd (Q*M/M)) 0 rfl hb1 rfl qK (aB (v:=g3) qM) ?_
          refine aF (d:=zd (Q*M%M)) 1 rfl hb2 rfl qK (aB (v:=g4) qM) ?_
          exact aU b2 hb2 trivial qF (dS (aC (bB rfl) (aA qS)))
        ·refine cB [0,1,2,4,3,11,5,6,7,8,9,10,12,13,14] qK qK ?_
         refine aM (p:=bx) (d:=J x) qM (a8 _) fun x2=>?_
         refine aM (p:=ba) (d:=zd Y) qM (aN _ _) fun x3=>?_
         refine aM (p:=bp) (d:=zd M) qM (aN _ _) fun x4=>?_
         refine cG (hval g1 x2 x3) fun g2=>?_
         refine aH (d:=I false []) fun b2 hb2=>?_
         refine cF (hdm g2 x4) ?_
         rintro _ _ _ ⟨rfl,g3,g4,rfl,rfl⟩
         refine aH (d:=I false []) fun b1 hb1=>?_
         refine aF (d:=zd (Q*M/M)) 0 rfl hb1 rfl qK (aB (v:=g3) qM) ?_
         refine aF (d:=zd (Q*M%M)) 1 rfl hb2 rfl qK (aB (v:=g4) qM) ?_
         exact aU b2 hb2 trivial qF (dS (aC (bB rfl) (aA qS)))
       ·refine a7 5 11 qK qK qK ?_ ?_
        ·refine cB [0,1,2,4,3,10,5,6,7,8,9,11,12,13,14] qK qK ?_
         refine aM (p:=bx) (d:=J x) qM (a8 _) fun x2=>?_
         refine aM (p:=ba) (d:=zd Y) qM (aN _ _) fun x3=>?_
         refine aM (p:=bp) (d:=zd M) qM (aN _ _) fun x4=>?_
         refine cG (hval g1 x2 x3) fun g2=>?_
         refine aH (d:=I false []) fun b1 hb1=>?_
         refine cF (hdm g2 x4) ?_
         rintro _ _ _ ⟨rfl,g3,g4,rfl,rfl⟩
         refine aH (d:=I false []) fun b2 hb2=>?_
         refine aF (d:=zd (Q*M/M)) 1 rfl hb1 rfl qK (aB (v:=g3) qM) ?_
         refine aF (d:=zd (Q*M%M)) 0 rfl hb2 rfl qK (aB (v:=g4) qM) ?_
         exact aU b2 hb2 trivial qF (aC (aW 1 _ _) (aC (bB rfl) (aA qS)))
        ·refine a7 10 11 qK qK qK ?_ ?_
         ·refine cB [0,1,2,4,3,10,11,5,6,7,8,9,12,13,14] qK qK ?_
          refine aM (p:=bx) (d:=J x) qM (a8 _) fun x2=>?_
          refine aM (p:=ba) (d:=zd Y) qM (aN _ _) fun x3=>?_
          refine aM (p:=bp) (d:=zd M) qM (aN _ _) fun x4=>?_
          refine cG (hval g1 x2 x3) fun g2=>?_
          refine aH (d:=I false []) fun b1 hb1=>?_
          refine aH (d:=I false []) fun b2 hb2=>?_
          refine cF (hdm g2 x4) ?_
          rintro _ _ _ ⟨rfl,g3,g4,rfl,rfl⟩
          refine aF (d:=zd (Q*M/M)) 1 rfl hb1 rfl qK (aB (v:=g3) qM) ?_
          refine aF (d:=zd (Q*M%M)) 0 rfl hb2 rfl qK (aB (v:=g4) qM) ?_
          exact aU b2 hb2 trivial qF (aC (aW 1 _ _) (aC (bB rfl) (aA qS)))
         ·refine cB [0,1,2,4,3,11,10,5,6,7,8,9,12,13,14] qK qK ?_
          refine aM (p:=bx) (d:=J x) qM (a8 _) fun x2=>?_
          refine aM (p:=ba) (d:=zd Y) qM (aN _ _) fun x3=>?_
          refine aM (p:=bp) (d:=zd M) qM (aN _ _) fun x4=>?_
          refine cG (hval g1 x2 x3) fun g2=>?_
          refine aH (d:=I false []) fun b2 hb2=>?_
          refine aH (d:=I false []) fun b1 hb1=>?_
          refine cF (hdm g2 x4) ?_
          rintro _ _ _ ⟨rfl,g3,g4,rfl,rfl⟩
          refine aF (d:=zd (Q*M/M)) 0 rfl hb1 rfl qK (aB (v:=g3) qM) ?_
          refine aF (d:=zd (Q*M%M)) 1 rfl hb2 rfl qK (aB (v:=g4) qM) ?_
          exact aU b2 hb2 trivial qF (dS (aC (bB rfl) (aA qS)))
      ·refine a7 5 10 qK qK qK ?_ ?_
       ·refine cB [0,1,2,4,11,3,5,6,7,8,9,10,12,13,14] qK qK ?_
        refine aM (p:=bx) (d:=J x) qM (a8 _) fun x2=>?_
        refine aM (p:=ba) (d:=zd Y) qM (aN _ _) fun x3=>?_
        refine aM (p:=bp) (d:=zd M) qM (aN _ _) fun x4=>?_
        refine aH (d:=I false []) fun b2 hb2=>?_
        refine cG (hval g1 x2 x3) fun g2=>?_
        refine cF (hdm g2 x4) ?_
        rintro _ _ _ ⟨rfl,g3,g4,rfl,rfl⟩
        refine aH (d:=I false []) fun b1 hb1=>?_
        refine aF (d:=zd (Q*M/M)) 0 rfl hb1 rfl qK (aB (v:=g3) qM) ?_
        refine aF (d:=zd (Q*M%M)) 1 rfl hb2 rfl qK (aB (v:=g4) qM) ?_
        exact aU b2 hb2 trivial qF (dS (aC (bB rfl) (aA qS)))
       ·refine cB [0,1,2,4,11,3,10,5,6,7,8,9,12,13,14] qK qK ?_
        refine aM (p:=bx) (d:=J x) qM (a8 _) fun x2=>?_
        refine aM (p:=ba) (d:=zd Y) qM (aN _ _) fun x3=>?_
        refine aM (p:=bp) (d:=zd M) qM (aN _ _) fun x4=>?_
        refine aH (d:=I false []) fun b2 hb2=>?_
        refine cG (hval g1 x2 x3) fun g2=>?_
        refine aH (d:=I false []) fun b1 hb1=>?_
        refine cF (hdm g2 x4) ?_
        rintro _ _ _ ⟨rfl,g3,g4,rfl,rfl⟩
        refine aF (d:=zd (Q*M/M)) 0 rfl hb1 rfl qK (aB (v:=g3) qM) ?_
        refine aF (d:=zd (Q*M%M)) 1 rfl hb2 rfl qK (aB (v:=g4) qM) ?_
        exact aU b2 hb2 trivial qF (dS (aC (bB rfl) (aA qS)))
     ·refine a7 3 11 qK qK qK ?_ ?_
      ·refine a7 5 11 qK qK qK ?_ ?_
       ·refine cB [0,1,2,4,10,3,5,6,7,8,9,11,12,13,14] qK qK ?_
        refine aM (p:=bx) (d:=J x) qM (a8 _) fun x2=>?_
        refine aM (p:=ba) (d:=zd Y) qM (aN _ _) fun x3=>?_
        refine aM (p:=bp) (d:=zd M) qM (aN _ _) fun x4=>?_
        refine aH (d:=I false []) fun b1 hb1=>?_
        refine cG (hval g1 x2 x3) fun g2=>?_
        refine cF (hdm g2 x4) ?_
        rintro _ _ _ ⟨rfl,g3,g4,rfl,rfl⟩
        refine aH (d:=I false []) fun b2 hb2=>?_
        refine aF (d:=zd (Q*M/M)) 1 rfl hb1 rfl qK (aB (v:=g3) qM) ?_
        refine aF (d:=zd (Q*M%M)) 0 rfl hb2 rfl qK (aB (v:=g4) qM) ?_
        exact aU b2 hb2 trivial qF (aC (aW 1 _ _) (aC (bB rfl) (aA qS)))
       ·refine cB [0,1,2,4,10,3,11,5,6,7,8,9,12,13,14] qK qK ?_
        refine aM (p:=bx) (d:=J x) qM (a8 _) fun x2=>?_
        refine aM (p:=ba) (d:=zd Y) qM (aN _ _) fun x3=>?_
        refine aM (p:=bp) (d:=zd M) qM (aN _ _) fun x4=>?_
        refine aH (d:=I false []) fun b1 hb1=>?_
        refine cG (hval g1 x2 x3) fun g2=>?_
        refine aH (d:=I false []) fun b2 hb2=>?_
        refine cF (hdm g2 x4) ?_
        rintro _ _ _ ⟨rfl,g3,g4,rfl,rfl⟩
        refine aF (d:=zd (Q*M/M)) 1 rfl hb1 rfl qK (aB (v:=g3) qM) ?_
        refine aF (d:=zd (Q*M%M)) 0 rfl hb2 rfl qK (aB (v:=g4) qM) ?_
        exact aU b2 hb2 trivial qF (aC (aW 1 _ _) (aC (bB rfl) (aA qS)))
      ·refine a7 10 11 qK qK qK ?_ ?_
       ·refine cB [0,1,2,4,10,11,3,5,6,7,8,9,12,13,14] qK qK ?_
        refine aM (p:=bx) (d:=J x) qM (a8 _) fun x2=>?_
        refine aM (p:=ba) (d:=zd Y) qM (aN _ _) fun x3=>?_
        refine aM (p:=bp) (d:=zd M) qM (aN _ _) fun x4=>?_
        refine aH (d:=I false []) fun b1 hb1=>?_
        refine aH (d:=I false []) fun b2 hb2=>?_
        refine cG (hval g1 x2 x3) fun g2=>?_
        refine cF (hdm g2 x4) ?_
        rintro _ _ _ ⟨rfl,g3,g4,rfl,rfl⟩
        refine aF (d:=zd (Q*M/M)) 1 rfl hb1 rfl qK (aB (v:=g3) qM) ?_
        refine aF (d:=zd (Q*M%M)) 0 rfl hb2 rfl qK (aB (v:=g4) qM) ?_
        exact aU b2 hb2 trivial qF (aC (aW 1 _ _) (aC (bB rfl) (aA qS)))
       ·refine cB [0,1,2,4,11,10,3,5,6,7,8,9,12,13,14] qK qK ?_
        refine aM (p:=bx) (d:=J x) qM (a8 _) fun x2=>?_
        refine aM (p:=ba) (d:=zd Y) qM (aN _ _) fun x3=>?_
        refine aM (p:=bp) (d:=zd M) qM (aN _ _) fun x4=>?_
        refine aH (d:=I false []) fun b2 hb2=>?_
        refine aH (d:=I false []) fun b1 hb1=>?_
        refine cG (hval g1 x2 x3) fun g2=>?_
        refine cF (hdm g2 x4) ?_
        rintro _ _ _ ⟨rfl,g3,g4,rfl,rfl⟩
        refine aF (d:=zd (Q*M/M)) 0 rfl hb1 rfl qK (aB (v:=g3) qM) ?_
        refine aF (d:=zd (Q*M%M)) 1 rfl hb2 rfl qK (aB (v:=g4) qM) ?_
        exact aU b2 hb2 trivial qF (dS (aC (bB rfl) (aA qS)))
    rintro b2 hb2
    simp only
    rw [hmod]
    have hsg:=fun z=>p5 z (decide ((0:Int)<0)) (bQ (0:Int).natAbs) (aY _) (Nat.le_trans (kH 0 qE).len qE)
    simp only [jT] at hsg
    refine aD (d:=zd 0) 0 rfl hb2 rfl (aN _ _) fun g5=>?_
    refine cH (hsg g5) ?_
    refine bR rfl qE ?_
    refine ar rfl qI ?_
    exact aU (j+1) qN (by simp only; omega) qF (dS (aA qS))
   ·refine ar rfl qI ?_
    exact aU (i+1) qN (by simp only; omega) qF (aA qS)
  ·
   exact fin ⟨rfl,rfl,rfl⟩ (aL _ _)
open Go.ChangeShapes Go.WideShapes Go.ChangeAt Go.RowKit
open Go.Joins (open_agg2)
set_option maxRecDepth 100000 in
theorem qZ (os:Os) (started:os.Started) (H:Type) (enc:TypeId×Value→H) :
  ReturnsInHanded {} Tryz.checked os 8 .any (Rows.slzVanishesSpec.pre6 enc Tryz.prog Tryz.f8 Rows.slzVanishesRow.domain false) (Rows.slzVanishesSpec.post enc Tryz.prog Tryz.f8 false true false false):=by
 refine returnsInHanded_of_change (C:=Tryz.checked) own0 started qK Tryz.func8
  (ChangeSpec.witness6 (enc:=enc) (C:=Tryz.checked) false ⟨#[], #[.agg #[.slice none 0 0,.bool false,.slice none 0 0,.bool false,.slice none 0 0,.bool false,.slice none 0 0,.int .i64 0],.agg #[.bool false,.slice none 0 0],.agg #[.bool false,.slice none 0 0]],[]⟩ 8 qK qK qK qK) ?_
 intro Wd base args ds gs before hval0 hW hcnd _
 have hval:∀ (j:Nat) t v,Tryz.f8.params[j]? = some t→args[j]? = some v→Value.okWide Tryz.prog Wd .any base t v:=hval0
 have hW':=hW
 obtain ⟨p,q,hA0,hV,rfl,hfz,hnd⟩:=hW
 have hA:DataW.TrodAll enc Tryz.prog Wd 0 (fun _=>true) true Tryz.f8.params.toList args.toList ds p:=hA0
 rw [Tryz.params8] at hA hval
 obtain ⟨v0,vs0,d0,ds0,p0,q0,hargs,rfl,rfl,h0,r0⟩:=trodAll_cons hA
 obtain ⟨v1,vs1,d1,ds1,p1,q1,rfl,rfl,rfl,h1,r1⟩:=trodAll_cons r0
 obtain ⟨v2,vs2,d2,ds2,p2,q2,rfl,rfl,rfl,h2,r2⟩:=trodAll_cons r1
 obtain ⟨rfl,rfl,rfl⟩:=trodAll_nil r2
 obtain rfl:args = #[v0,v1,v2]:=by cases args; simp_all
 obtain ⟨rfl,rfl⟩:=trodVars_none hV
 have k0:=h0
 have lt0:∀ x∈p0,x.block<Wd.heap.size:=by obtain ⟨m,hm⟩:=k0; exact DataW.trod_lt m _ _ _ hm
 obtain ⟨aP0,aM0,aT0,aY0,aN0,⟨lP0,lM0,lT0,lY0,lN0⟩,rd0⟩:=rd_ask (hval 0 28 v0 rfl rfl) h0
 have k1:=h1
 have lt1:∀ x∈p1,x.block<Wd.heap.size:=by obtain ⟨m,hm⟩:=k1; exact DataW.trod_lt m _ _ _ hm
 obtain ⟨m1,lm1,rd1⟩:∃ m:Bool×List Nat,Lim m.2∧Rd (fun b=>b<Wd.heap.size) Wd v1 (J m):=rd_arg (hval 1 26 v1 rfl rfl) h1
 have k2:=h2
 have lt2:∀ x∈p2,x.block<Wd.heap.size:=by obtain ⟨m,hm⟩:=k2; exact DataW.trod_lt m _ _ _ hm
 obtain ⟨m2,lm2,rd2⟩:∃ m:Bool×List Nat,Lim m.2∧Rd (fun b=>b<Wd.heap.size) Wd v2 (J m):=rd_arg (hval 2 26 v2 rfl rfl) h2
 clear hA0 hval0
 refine (calls_of_meets (w:=Wd) (vJ v0 v1 v2 aP0 aM0 aT0 aY0 aN0 m1 m2 lP0 lM0 lT0 lY0 lN0 lm1 lm2) ?_).mono fun e W2 ⟨he,bel⟩=>?_
 ·intro F hF
  simp only [List.mem_cons,List.not_mem_nil,or_false] at hF
  rcases hF with rfl | rfl | rfl
  ·exact rd0
  ·exact rd1
  ·exact rd2
 subst he
 exact ⟨_,rfl,_,_,_,[],_,[],hW',trodAll_mk1 (shut_bool Tryz.underlying4 _),(trodAll_cons_mk (Below.trod laid0 qK (of_decide_eq_true qK) k0 bel lt0) (trodAll_cons_mk (Below.trod laid0 qK (of_decide_eq_true qK) k1 bel lt1) (trodAll_cons_mk (Below.trod laid0 qK (of_decide_eq_true qK) k2 bel lt2) trodAll_mk0))),rfl,bel.frame _,fun h=>by cases h⟩
theorem slzVanishes_holds:Rows.SlzVanishesSaid :=
 OpenClaim.holds_of_wide 8 Tryz.f8 rfl rfl rfl rfl rfl rfl rfl ⟨rfl,rfl,rfl,rfl,rfl⟩ rfl rfl rfl rfl rfl qK Tryz.func8 qK
  (of_decide_eq_true qK) (by unfold Func.isWrapper; first | (rw [if_pos (by decide +kernel)]; kernel_rfl) | (rw [if_neg (by decide +kernel)]; exact ⟨rfl,rfl⟩))
  (fun os started H enc _=>qZ os started H enc)
#print axioms slzVanishes_holds
end Go.Proofs.YtjebljkoiaojaaaGreat
