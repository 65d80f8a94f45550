/- The law SlzTells is true of each input, and changes none. No condition. -/
import Derived.Test.YtjebljkoiaojaaaGreatM5
import Derived.Test.YtjebljkoiaojaaaGreatRows
import Derived.OpenShut
import Derived.Below
import Derived.Lib.SmallJoins
set_option linter.unusedVariables false
set_option linter.unusedSimpArgs false
namespace Go.Proofs.YtjebljkoiaojaaaGreat
open Go.RowKit
noncomputable def M1 (a:List Row):List (List Int):=matL a.length (a.getD 0 []).length (lrd a).1
noncomputable def M2 (a:List Row):List (List Int):=matL a.length a.length (lrd a).2
theorem M1_at (a:List Row) {i c:Nat} (hi:i<a.length) (hc:c<(a.getD 0 []).length):mx (M1 a) i c=(lrd a).1 i c:=matL_at _ hi hc
structure Rdd (a:List Row) (k:Nat):Prop where
 lb:LB (rvm a) (a.getD 0 []).length a.length (lD k a.length) (lK k a.length) (lrd a).1 (lrd a).2
 rd:Rdc (a.getD 0 []).length (lrd a).1 a.length
 dn:dm (a.getD 0 []).length (lrd a).1 a.length=dm (a.getD 0 []).length (rvm a) a.length
theorem rdd {a:List Row} {k:Nat} (hf:Fits k a) (hr:right a) (ln:a.length≤1024) (lc:(a.getD 0 []).length≤1048576) (hI:Ind (a.getD 0 []).length a.length (rvm a)):Rdd a k:=by
 obtain ⟨f,hf'⟩:=lrr_spec hI
 have hs:=(Sv.start hf lc ln hI).lb
 have hn:=hr.1
 obtain ⟨h1,h2,h3⟩:=lrun_red hf' (Nat.le_refl _) qN hI fun i h1 h2=>by omega
 exact ⟨lrun_LB qN (by unfold lK; omega) hf' (Nat.le_refl _) hs,h1,h3⟩
section
variable {a:List Row} {k:Nat}
theorem Rdd.len (_:Rdd a k):(M1 a).length=a.length:=matL_len _ _ _
end
theorem lred_ok {a:List Row} (hr:right a) (hI:Ind (a.getD 0 []).length a.length (rvm a)):lred a=(M1 a,M2 a,0):=by
 unfold lred
 rw [if_pos hr,if_neg ((xG a).1 hI)]; rfl
structure Lil (P:List Int) (m t y:Int) (d n:Nat):Prop where
 ok:wM P m t y n
 dg:dg P=d+1
 n1:1≤n
 n2:n≤2
 dn:d*n≤4
 d1:1≤d
 P1:szR 1 P
 Pl:P.length≤4
 m1:sz m 1
 t1:sz t 1
 y1:sz y 1
def lA (P:List Int) (m t y:Int) (d n:Nat):List (List Int):=(shp d n).map fun s=>qT (shp d n) (gI t) (gI y) (uW P m n s)
section
variable {P:List Int} {m t y:Int} {d n:Nat}
theorem Lil.pos (h:Lil P m t y d n):1≤m∧0≤t∧0≤y:=h.ok.2
theorem Lil.len (h:Lil P m t y d n):(shp d n).length≤9:=by
 obtain ⟨h1,h2,h3,h4⟩:=And.intro h.n1 (And.intro h.n2 (And.intro h.dn h.d1))
 have hn:n=1∨n=2:=by omega
 rcases hn with rfl | rfl
 ·have hd:d=1∨d=2∨d=3∨d=4:=by omega
  rcases hd with rfl | rfl | rfl | rfl <;> decide
 ·have hd:d=1∨d=2:=by omega
  rcases hd with rfl | rfl <;> decide
theorem lst1_pos {x:Int} (h:0≤x):1≤gI x:=by unfold gI; split <;> omega
theorem Lil.sz (h:Lil P m t y d n):SzOk P m d n (gI t) (gI y) :=
 ⟨h.dg,h.d1,h.pos.1,lst1_pos h.pos.2.1,lst1_pos h.pos.2.2,by have:=h.len; omega⟩
theorem Lil.mat (h:Lil P m t y d n):matR P m t y n=(lA P m t y d n,0):=by
 unfold matR
 rw [if_pos h.ok,h.dg,Nat.add_sub_cancel,Int.toNat_natCast]; rfl
theorem lA_len (P:List Int) (m t y:Int) (d n:Nat):(lA P m t y d n).length=(shp d n).length:=List.length_map _
theorem lA_row {P:List Int} {m t y:Int} {d n i:Nat} (hi:i<(shp d n).length):(lA P m t y d n).getD i []=qT (shp d n) (gI t) (gI y) (uW P m n ((shp d n).getD i (0,0))):=by
 unfold lA
 simp [gE,hi]
theorem rowV_len (s:List (Nat×Nat)) (T Y:Int) (G:List (List Int)):(qT s T Y G).length=s.length:=List.length_map _
theorem lA_mx {P:List Int} {m t y:Int} {d n i c:Nat} (hi:i<(shp d n).length) (hc:c<(shp d n).length):mx (lA P m t y d n) i c=amat P m d n (gI t) (gI y) i c:=by
 unfold mx
 rw [lA_row hi]
 unfold qT amat
 simp [gE,hc]
theorem Lil.n0 (_:Lil P m t y d n):0<(shp d n).length:=by have:=sZ d n; omega
theorem Lil.row0 (h:Lil P m t y d n):((lA P m t y d n).getD 0 []).length=(shp d n).length:=by rw [lA_row h.n0,rowV_len]
theorem Lil.right (h:Lil P m t y d n):right (lA P m t y d n):=by
 have h0:=h.n0
 refine ⟨by rw [lA_len]; exact h0,fun r hr=>?_⟩
 rw [h.row0]
 obtain ⟨s,_,rfl⟩:=List.mem_map.1 hr
 rw [rowV_len]; exact ⟨h0,rfl⟩
theorem Lil.ent (h:Lil P m t y d n) {s:Nat×Nat} (hs:s∈shp d n) (u v:Nat):Go.Proofs.YtjebljkoiaojaaaGreat.sz (gv (uW P m n s) u v) 7:=by
 have h1:=h.sz.small hs
 have hd4:d≤4:=by
  have:=Nat.mul_le_mul_left d h.n1
  have:=h.dn
  omega
 have h2:szR 1 (nrm P):=h.P1.nrm
 have hl:Lg (toW (iI (nrm P))) (iI (nrm P)) 1 5:=(glJ_lg h2 (Nat.le_refl _) (by have:(nrm P).length=d+1:=h.dg; omega) qE).toW
 have hn2:=h.n2
 have h3:Go.Proofs.YtjebljkoiaojaaaGreat.sz (m^(n - s.2)) 3:=(lL h.m1 (n - s.2)).mono qN
 have h4:=gpw_lg hl (gone_lg (n:=24) h3 (show s.1+1≤24 by omega)) qE s.2 (by have:s.2*5≤2*5:=Nat.mul_le_mul_right _ qN; omega)
 exact (h4.gv u v).mono (by have:s.2*(1+1)≤2*(1+1):=Nat.mul_le_mul_right _ qN; omega)
theorem Lil.small (h:Lil P m t y d n) {s:Nat×Nat} (hs:s∈shp d n):s.1≤4∧s.2≤4∧s.2≤n:=by
 have h1:=h.sz.small hs
 have h2:d*(n - s.2)≤d*n:=Nat.mul_le_mul_left _ qN
 have:=h.dn
 have:=h.n2
 omega
theorem Lil.scl (h:Lil P m t y d n) {s:Nat×Nat} (hs:s∈shp d n):Go.Proofs.YtjebljkoiaojaaaGreat.sz (jG (gI t) (gI y) s) 10 :=
 (sclV_sz (tC h.t1 (Nat.le_refl _)) (tC h.y1 (Nat.le_refl _)) ⟨(h.small hs).1,(h.small hs).2.1⟩).mono qE
theorem Lil.szM (h:Lil P m t y d n):szM 17 (lA P m t y d n):=fun r hr x hx=>by
 obtain ⟨s,hs,rfl⟩:=List.mem_map.1 hr
 obtain ⟨p,hp,rfl⟩:=List.mem_map.1 hx
 exact (h.ent hs p.1 p.2).mul (h.scl hp)
theorem Lil.fits (h:Lil P m t y d n):Fits 17 ((lA P m t y d n).map (·.map cn)):=h.szM.fits
theorem map_right {M:List (List Int)} (h:Go.Proofs.YtjebljkoiaojaaaGreat.right M):Go.Proofs.YtjebljkoiaojaaaGreat.right (M.map (·.map cn)):=by
 have h0:((M.map (·.map cn)).getD 0 []).length=(M.getD 0 []).length:=by
  simp [gE,h.1]
 refine ⟨by rw [List.length_map]; exact h.1,fun r hr=>?_⟩
 obtain ⟨l,hl,rfl⟩:=List.mem_map.1 hr
 rw [h0,List.length_map]
 exact h.2 l hl
theorem map_row0 {M:List (List Int)} (h:Go.Proofs.YtjebljkoiaojaaaGreat.right M):((M.map (·.map cn)).getD 0 []).length=(M.getD 0 []).length:=by
 simp [gE,h.1]
abbrev lW (P:List Int) (m t y:Int) (d n:Nat):List Row:=(lA P m t y d n).map (·.map cn)
theorem uG (P:List Int) (m t y:Int) (d n:Nat):(lW P m t y d n).length=(shp d n).length:=by rw [List.length_map,lA_len]
theorem Lil.wrow0 (h:Lil P m t y d n):((lW P m t y d n).getD 0 []).length=(shp d n).length:=by rw [map_row0 h.right,h.row0]
theorem lW_rvm (P:List Int) (m t y:Int) (d n:Nat):rvm (lW P m t y d n)=mx (lA P m t y d n):=rvm_cn _
theorem Lil.ind (h:Lil P m t y d n):Ind ((lW P m t y d n).getD 0 []).length (lW P m t y d n).length (rvm (lW P m t y d n)):=by
 refine (xG _).2 ?_
 unfold linD gmx
 rw [uG,h.wrow0,lW_rvm]
 have e:det (shp d n).length (gr (shp d n).length (mx (lA P m t y d n)))=det (shp d n).length (mm (shp d n).length (mx (lA P m t y d n)) (tp (mx (lA P m t y d n)))):=rfl
 rw [e,det_mul,r8,cJ (B:=amat P m d n (gI t) (gI y)) fun i j hi hj=>lA_mx hi hj]
 exact Int.mul_ne_zero h.sz.det_ne h.sz.det_ne
noncomputable def lR (P:List Int) (m t y:Int) (d n:Nat):List (List Int):=M1 (lW P m t y d n)
theorem Lil.red (h:Lil P m t y d n):lred (lW P m t y d n)=(lR P m t y d n,M2 (lW P m t y d n),0):=lred_ok (map_right h.right) h.ind
theorem Lil.rdd (h:Lil P m t y d n):Rdd (lW P m t y d n) 17:=Go.Proofs.YtjebljkoiaojaaaGreat.rdd h.fits (map_right h.right) (by rw [uG]; have:=h.len; omega) (by rw [h.wrow0]; have:=h.len; omega) h.ind
theorem Lil.rlen (h:Lil P m t y d n):(lR P m t y d n).length=(shp d n).length:=by rw [lR,h.rdd.len,uG]
theorem Lil.rrow (h:Lil P m t y d n) {i:Nat} (hi:i<(shp d n).length):((lR P m t y d n).getD i []).length=(shp d n).length:=by
 unfold lR M1
 rw [matL_row _ (by rw [uG]; exact hi),h.wrow0]; simp
theorem Lil.lb (h:Lil P m t y d n):LB (mx (lA P m t y d n)) (shp d n).length (shp d n).length (lD 17 (shp d n).length) (lK 17 (shp d n).length) (lrd (lW P m t y d n)).1 (lrd (lW P m t y d n)).2:=by
 have:=h.rdd.lb
 rw [h.wrow0,uG,lW_rvm] at this
 exact this
theorem Lil.rat (h:Lil P m t y d n) {i c:Nat} (hi:i<(shp d n).length) (hc:c<(shp d n).length):((lR P m t y d n).getD i []).getD c 0=(lrd (lW P m t y d n)).1 i c :=
 M1_at (lW P m t y d n) (by rw [uG]; exact hi) (by rw [h.wrow0]; exact hc)
theorem lK_le {N:Nat} (h:N≤9):lK 17 N≤4000∧lZ 17 N≤268435456:=by
 have hN:N=0∨N=1∨N=2∨N=3∨N=4∨N=5∨N=6∨N=7∨N=8∨N=9:=by omega
 rcases hN with rfl | rfl | rfl | rfl | rfl | rfl | rfl | rfl | rfl | rfl <;> decide
theorem Lil.rsz (h:Lil P m t y d n) {i:Nat} (hi:i<(shp d n).length):szR 4000 ((lR P m t y d n).getD i []):=fun x hx=>by
 obtain ⟨c,hc,rfl⟩:=mem_getD 0 hx
 have hc':c<(shp d n).length:=by rw [← h.rrow hi]; exact hc
 rw [h.rat hi hc']
 exact (h.lb.bz i c hi hc').mono (lK_le h.len).1
theorem Lil.hm (h:Lil P m t y d n):Go.Proofs.YtjebljkoiaojaaaGreat.sz (m^n) 3:=(lL h.m1 n).mono (by have:=h.n2; omega)
noncomputable def lF (P:List Int) (m t y:Int) (d n:Nat):List Int×Bool:=uI (shp d n) (gI t) (gI y) (m^n) (lR P m t y d n)
theorem two_rows (h:Lil P m t y d n):2≤(shp d n).length:=by
 have:=sZ d n
 have h1:=Nat.mul_le_mul h.d1 h.n1
 omega
theorem Lil.gsz (h:Lil P m t y d n) {i:Nat} (hi:i<(shp d n).length) (hs:o5 ((lR P m t y d n).getD i [])<m^n) :
  supp d (d*n) (mC (shp d n) (gI t) (gI y) ((lR P m t y d n).getD i []))∧∀ u v,(gv (mC (shp d n) (gI t) (gI y) ((lR P m t y d n).getD i [])) u v).natAbs≤(m^n).natAbs:=by
 have hb:∀ p,p∈shp d n→p.1≤100∧p.2≤100:=fun p hp=>by have:=h.small hp; omega
 constructor
 ·intro u v hne
  rw [vH hb] at hne
  rcases gFs_get (s:=shp d n) (T:=gI t) (Y:=gI y) (R:=(lR P m t y d n).getD i []) (u:=u) (v:=v) (shp d n).length with ⟨j,hj,_,e⟩ | e
  ·have hm:(u,v)∈shp d n:=by rw [← e]; exact dO (0,0) hj
   have h1:=sX.1 hm
   have h2:d*(n - v)+d*v=d*n:=by rw [← Nat.mul_add]; congr 1; omega
   omega
  ·exact absurd e hne
 ·intro u v
  rw [vH hb]
  rcases gFs_get (s:=shp d n) (T:=gI t) (Y:=gI y) (R:=(lR P m t y d n).getD i []) (u:=u) (v:=v) (shp d n).length with ⟨j,hj,e,_⟩ | e
  ·rw [e]
   have h1:=Int.natAbs_ediv_le_natAbs (((lR P m t y d n).getD i []).getD j 0) (jG (gI t) (gI y) (u,v))
   have h2:=asum_mem (dO 0 (l:=(lR P m t y d n).getD i []) (i:=j) (by rw [h.rrow hi]; exact hj))
   omega
  ·rw [e]; simp
theorem Lil.fsz (h:Lil P m t y d n) (hf:(lF P m t y d n).2=true):szR 9 (lF P m t y d n).1∧(lF P m t y d n).1.length≤9∧0<Go.Proofs.YtjebljkoiaojaaaGreat.dg (lF P m t y d n).1∧o5 ((lR P m t y d n).getD 0 [])<m^n∧o5 ((lR P m t y d n).getD 1 [])<m^n ∧
  (lF P m t y d n).1=gel (mC (shp d n) (gI t) (gI y) ((lR P m t y d n).getD 0 [])) (mC (shp d n) (gI t) (gI y) ((lR P m t y d n).getD 1 [])):=by
 have h2:=two_rows h
 by_cases hs:o5 ((lR P m t y d n).getD 0 [])<m^n∧o5 ((lR P m t y d n).getD 1 [])<m^n
 ·have e:lF P m t y d n=_:=if_pos hs
  obtain ⟨g1,g2⟩:=h.gsz (i:=0) qN hs.1
  obtain ⟨g3,g4⟩:=h.gsz (i:=1) qN hs.2
  rw [e] at hf ⊢
  dsimp only at hf ⊢
  have hl9:=gel_len9 g1 g3 h.d1 h.n2 h.dn
  generalize hGE:gel (mC (shp d n) (gI t) (gI y) ((lR P m t y d n).getD 0 [])) (mC (shp d n) (gI t) (gI y) ((lR P m t y d n).getD 1 []))=E at *
  refine ⟨?_,hl9,of_decide_eq_true hf,hs.1,hs.2,rfl⟩
  rw [← hGE]
  clear hl9 hf e
  clear hGE
  clear E
  have h3:=lL h.m1 n
  refine gel_sz9 g1 g3 h.d1 h.n2 h.dn (M:=(m^n).natAbs) ?_ g2 g4
  have h4:(m.natAbs)<18446744073709551616:=by have:=h.m1; unfold Go.Proofs.YtjebljkoiaojaaaGreat.sz at this; omega
  have h5:=h.n1
  have h6:=h.n2
  rw [Int.natAbs_pow]
  have hn:n=1∨n=2:=by omega
  rcases hn with rfl | rfl
  ·rw [Nat.pow_one]; exact Nat.lt_of_lt_of_le h4 (Nat.le_of_ble_eq_true rfl)
  ·exact Nat.pow_lt_pow_left h4 qE
 ·have e:lF P m t y d n=([],false):=by
   unfold lF uI
   rw [if_neg hs]
  rw [e] at hf; simp at hf
end
structure SolveOk (P:List Int) (m t y:Int) (d n:Nat) (L:List Int) (dec:Bool):Prop where
 und:(lF P m t y d n).2=false→L=[]∧dec=false
 ok:(lF P m t y d n).2=true→dec=true∧∃ O e,FlSpec (lF P m t y d n).1 (-t) t O e∧L=(inRt (lF P m t y d n).1 O).filter fun x=>near (pev P x) m y
theorem ch9:Ch0 9 9 2:=⟨by decide,by decide,by decide,by decide,by decide,by decide⟩
theorem filter_succ {f:Int→Bool} {L:List Int} {i:Nat} (h:i<L.length):(L.take (i+1)).filter f=if f (L.getD i 0)=true then (L.take i).filter f++[L.getD i 0] else (L.take i).filter f:=by
 rw [List.take_add_one,List.getElem?_eq_getElem h,List.filter_append,gE,List.getElem?_eq_getElem h]
 simp only [Option.toList,Option.getD_some,List.filter_cons,List.filter_nil]
 split <;> simp
set_option maxHeartbeats 4000000 in
theorem slzSolve_ok (v w u z:Value) (p:Row) (m t y:Bool×List Nat) (d n:Nat) (hp:Fit 1 p) (hm:Lim m.2) (hma:m.2.length≤1) (ht:Lim t.2) (hta:t.2.length≤1) (hy:Lim y.2) (hya:y.2.length≤1)
  (h:Lil (vv p) (jv m) (jv t) (jv y) d n) :
  Meets Tryz.prog 28 [v,w,u,z,.int .i64 (n:Int)] [(v,V p),(w,J m),(u,J t),(z,J y)] (fun r os fs=>os=[]∧∃ q L dec,r=.tuple #[q,.bool dec,.int .i64 0]∧SolveOk (vv p) (jv m) (jv t) (jv y) d n L dec∧fs=[(q,vd L)]):=by
 have lp:p.length≤4:=by have:=h.Pl; rwa [cP] at this
 have hn2:=h.n2
 have hin:inK .i64 (n:Int):=by simp only [inK]; omega
 have hpl:=fun y1 y2 y3=>nX v y1 y2 y3 p m t y n 1 1 hp qN qE hm hma ht hta hy hya qE hin
 rw [show planR (vv p) (jv m) (jv t) (jv y) n=(j8 (shp (dg (vv p) - 1) (n:Int).toNat) (gI (jv t)) (gI (jv y)) (jv m^(n:Int).toNat),0) from if_pos h.ok,h.dg,Nat.add_sub_cancel,Int.toNat_natCast] at hpl
 have hmx:=fun y1 y2 y3=>lO v y1 y2 y3 p m t y n 1 1 hp qN qE qE hm hma ht hta hy hya qE qE hin
 rw [h.mat] at hmx
 have h9:=h.len
 have hrd:∀ y1,Meets Tryz.prog 30 [y1] [(y1,wd (lA (vv p) (jv m) (jv t) (jv y) d n))] (fun r os fs=>os=[]∧∃ q w,r=.tuple #[q,w,.int .i64 0]∧fs=[(q,wd (lR (vv p) (jv m) (jv t) (jv y) d n)),(w,wd (M2 (lW (vv p) (jv m) (jv t) (jv y) d n)))]):=fun y1=>by
  have:=lReduceT y1 (lW (vv p) (jv m) (jv t) (jv y) d n) 17 h.fits qE (by rw [uG]; omega) (by rw [h.wrow0]; omega) (by rw [uG]; exact (lK_le h9).2)
  rw [h.red] at this
  exact this
 have h22:=two_rows h
 have hfd:=fun y1 y2=>slzfound_meets y1 y2 (shp d n) (gI (jv t)) (gI (jv y)) (jv m^n) (lR (vv p) (jv m) (jv t) (jv y) d n) 4000 10 3 (fun p hp=>by have:=h.small hp; omega) qN (by rw [h.rlen]; omega) (fun i hi=>⟨h.rrow qN,h.rsz qN⟩) qE
  (fun s hs=>⟨h.scl hs,sclV_ne (lst1_ne _) (lst1_ne _) s⟩) qE h.hm qE
 have hfz:=h.fsz
 have hlF:uI (shp d n) (gI (jv t)) (gI (jv y)) (jv m^n) (lR (vv p) (jv m) (jv t) (jv y) d n)=lF (vv p) (jv m) (jv t) (jv y) d n:=rfl
 rw [hlF] at hfd
 have hS:∀ L dec,((lF (vv p) (jv m) (jv t) (jv y) d n).2=false→L=[]∧dec=false)→((lF (vv p) (jv m) (jv t) (jv y) d n).2=true→dec=true∧∃ O e,FlSpec (lF (vv p) (jv m) (jv t) (jv y) d n).1 (-jv t) (jv t) O e∧L=(inRt (lF (vv p) (jv m) (jv t) (jv y) d n).1 O).filter fun x=>near (pev (vv p) x) (jv m) (jv y))→SolveOk (vv p) (jv m) (jv t) (jv y) d n L dec:=fun L dec a b=>⟨a,b⟩
 have hm0:=h.pos.1
 have hP:=h.P1
 have zt:=h.t1
 clear h
 generalize lF (vv p) (jv m) (jv t) (jv y) d n=F at *
 generalize lR (vv p) (jv m) (jv t) (jv y) d n=R at *
 generalize lA (vv p) (jv m) (jv t) (jv y) d n=A at *
 generalize M2 _=U at *
 generalize hSS:shp d n=S at *
 generalize jv m^n=M at *
 generalize gI (jv t)=T at *
 generalize gI (jv y)=Y at *
 obtain ⟨f,b⟩:=F
 simp only at hfd hfz hS
 refine mV Tryz.func28 ?_
 refine bC (aB (d:=J m) qM) fun b1 h1=>?_
 refine bC (aB (d:=J t) qM) fun b2 h2=>?_
 refine bC (aB (d:=J y) qM) fun b3 h3=>?_
 refine aD (d:=J m) 2 rfl h1 rfl (bB _) fun y1=>?_
 refine aD (d:=J t) 1 rfl h2 rfl (bB _) fun y2=>?_
 refine aD (d:=J y) 0 rfl h3 rfl (bB _) fun y3=>?_
 refine cF (hpl y1 y2 y3) ?_
 rintro _ _ _ ⟨rfl,q,rfl,rfl⟩
 refine aK (d:=fI) fun bp hbp=>?_
 refine aF (d:=j8 S T Y M) 0 rfl hbp rfl qK (aB qM) ?_
 refine bY rfl (fun h=>h rfl) ?_
 refine aD (d:=J m) 3 rfl h1 rfl (bB _) fun y4=>?_
 refine aD (d:=J t) 2 rfl h2 rfl (bB _) fun y5=>?_
 refine aD (d:=J y) 1 rfl h3 rfl (bB _) fun y6=>?_
 refine cF (hmx y4 y5 y6) ?_
 rintro _ _ _ ⟨rfl,q2,rfl,rfl⟩
 refine cF (hrd q2) ?_
 rintro _ _ _ ⟨rfl,q3,q4,rfl,rfl⟩
 refine aD (d:=j8 S T Y M) 0 rfl hbp rfl (rS _ _ _ _) fun y7=>?_
 refine cF (hfd y7 q3) ?_
 rintro _ _ _ ⟨rfl,q5,rfl,rfl⟩
 cases b with
 | false =>
  exact fin ⟨rfl,.slice none 0 0,[],false,rfl,hS _ _ (fun _=>⟨rfl,rfl⟩) (fun h=>by simp at h),rfl⟩ (dS (dS (dS (dS (a9 (dH 2 _) (aH _ _))))))
 | true =>
  obtain ⟨sf,lf,df,_,_,_⟩:=hfz rfl
  have hch:ChOk (vv (f.map cn)) 9 9 (1+1):=ch9.of sf.fit (by rw [List.length_map]; exact lf)
  have hIn:=fun y1 y2=>in_meets q5 y1 y2 (f.map cn) (cn (-jv t)) t 9 9 1 sf.fit (by rw [List.length_map]; exact lf) (aZ _) zt.neg.len ht hta qE qE hch
  simp only [fC,eM] at hIn
  have hng:=fun y1=>zneg_meets y1 t.1 t.2 ht qN
  have hit:iv t.1 t.2=jv t:=rfl
  rw [hit] at hng
  refine a0 [0,1,3,2,4,5,6,7,8,9] [0,1,2,3,4,5,6,8,7,9] qK qK ?_
  refine aD (d:=J t) 2 rfl h2 rfl (bB _) fun y8=>?_
  refine aD (d:=J t) 2 rfl h2 rfl (bB _) fun y9=>?_
  refine cG (hng y8) fun y10=>?_
  refine cF (hIn y10 y9) ?_
  rintro _ _ _ ⟨rfl,q6,O,e,rfl,hO,rfl⟩
  have hmem:∀ x,x∈inRt f O→sz x 1:=fun x hx=>by
   have h1:=(List.mem_filter.1 hx).1
   have h2:=hO.mem x h1
   exact pQ zt.neg zt h2.1 h2.2
  have hfew:(inRt f O).length≤1048578:=Nat.le_trans (List.length_filter_le _ _) hO.few
  have hRes:=hS ((inRt f O).filter fun x=>near (pev (vv p) x) (jv m) (jv y)) true (fun h=>by simp at h) fun _=>⟨rfl,O,e,hO,rfl⟩
  clear hS hO hIn hch hng hfd hrd hmx hpl hfz
  generalize inRt f O=Is at *
  refine aP (v:=q6) (n:=(Is.map cn).length) qM fun _=>?_
  refine aQ (X:=Nat×Value) (fun x=>([(0,v),(6,b1),(8,b3),(24,x.2),(70,q6),(71,.int .i64 ((Is.map cn).length:Nat)),(72,.int .i64 (x.1:Nat))],
    [gW 2 J z0 x.2 (((Is.take x.1).filter fun x=>near (pev (vv p) x) (jv m) (jv y)).map cn),bL b3 2 1 (fun _=>J y),bL b1 2 1 (fun _=>J m)],[(q6,vd Is),(v,V p)]))
   (fun x=>x.1≤(Is.map cn).length∧isSl x.2) (fun x=>(Is.map cn).length - x.1) rfl ?_ ?_
  ·refine aT (0,.slice none 0 0) ⟨Nat.zero_le _,fG⟩ trivial qF ?_
   exact dS (aC (aX 1 _ _) (aC (cM _ _ 2 fun i=>J (([]:Row).getD i z0)) (aA qS)))
  rintro ⟨i,ov⟩ ⟨hi,hov⟩
  simp only [List.length_map] at hi ⊢
  simp only at hov ⊢
  have hli:(((Is.take i).filter fun x=>near (pev (vv p) x) (jv m) (jv y)).map cn).length≤1048578:=by
   rw [List.length_map]
   refine Nat.le_trans (List.length_filter_le _ _) ?_
   rw [List.length_take]; omega
  refine aE _ rfl (fun hlt=>?_) (fun hlt=>?_)
  ·have hiI:i<Is.length:=by omega
   have hfs:=filter_succ (f:=fun x=>near (pev (vv p) x) (jv m) (jv y)) hiI
   have hcg:=fL hiI
   have zx:=hmem _ (dO 0 hiI)
   refine aL (v:=q6) qM i rfl (by rw [List.length_map]; exact hiI) fun a1=>?_
   refine aU (d:=J ((Is.map cn).getD i z0)) qM (bB _) fun y11=>?_
   rw [hcg]
   generalize Is.getD i 0=X at *
   have hv:=fun z=>pValueJ v z p (cn X) 1 1 hp (aZ _) zx.len qN qN
   rw [eM] at hv
   have zv:sz (pev (vv p) X) 1073741824:=(ev_sz hP zx).mono (by rw [cP]; omega)
   have hw:=fun y1 y2 y3=>lM y1 y2 y3 (pev (vv p) X) m y _ zv qE hm qN hy qN qN
   generalize pev (vv p) X=Z at *
   refine aK (d:=I false []) fun bx hbx=>?_
   refine aF (d:=zd X) 0 rfl hbx rfl qK (aB (v:=y11) (d:=zd X) qM) ?_
   refine a0 [0,1,3,4,2,5] [0,1,2,3,4,5] qK qK ?_
   refine aD (d:=zd X) 0 rfl hbx rfl (aM _ _) fun y12=>?_
   refine aD (d:=J m) 3 rfl h1 rfl (bB _) fun y13=>?_
   refine aD (d:=J y) 2 rfl h3 rfl (bB _) fun y14=>?_
   refine cG (hv y12) fun y15=>?_
   refine cH (hw y15 y13 y14) ?_
   cases hne:near Z (jv m) (jv y) with
   | true =>
    rw [if_pos hne] at hfs
    refine aD (d:=zd X) 0 rfl hbx rfl (aM _ _) fun y16=>?_
    refine iH (size:=2) J z0 (cn X) qE (aB (v:=y16) (d:=zd X) qM) rfl fun l1=>?_
    refine dL 1 rfl hov (bA qM) (by simp only [List.length_cons,List.length_nil]; omega) (by simp only [List.length_cons,List.length_nil]; omega) fun o2 ho2=>?_
    refine ar rfl qI ?_
    refine aT (i+1,o2) ⟨by simp only [List.length_map]; omega,ho2⟩ (by simp only; omega) qF ?_
    simp only [hfs,List.map_append,List.map_cons,List.map_nil]
    exact dS (aA qS)
   | false =>
    rw [if_neg (by rw [hne]; simp)] at hfs
    refine ar rfl qI ?_
    refine aT (i+1,ov) ⟨by simp only [List.length_map]; omega,hov⟩ (by simp only; omega) qF ?_
    simp only [hfs]
    exact dS (aA qS)
  ·have hiI:i=Is.length:=by omega
   subst hiI
   rw [List.take_length]
   exact fin ⟨rfl,ov,_,true,rfl,hRes,rfl⟩ (aC (cO hov) (dS (dS (aA qS))))
theorem sngJ_lg {c:Int} {i j k n:Nat} (hc:sz c k) (hi:i<n) (hj:j<n):Lg (vW (cn c) i j) (ww (vW (cn c) i j)) k n :=
 ⟨rfl,by simp [vW]; omega,fun r hr=>by
  unfold vW at hr
  rcases List.mem_append.1 hr with hr | hr
  ·rw [(List.mem_replicate.1 hr).2]; exact ⟨Nat.zero_le _,fun x hx=>by simp at hx⟩
  ·rw [List.mem_singleton.1 hr]
   refine ⟨by simp; omega,fun x hx=>?_⟩
   rcases List.mem_append.1 hx with hx | hx
   ·rw [(List.mem_replicate.1 hx).2]; exact ⟨z0_lim,Nat.zero_le _⟩
   ·rw [List.mem_singleton.1 hx]; exact ⟨aZ _,hc.len⟩⟩
theorem sngJ_lgJ {c:Bool×List Nat} {i j k n:Nat} (hc:Lim c.2∧c.2.length≤k) (hi:i<n) (hj:j<n):Lg (vW c i j) (ww (vW c i j)) k n :=
 ⟨rfl,by simp [vW]; omega,fun r hr=>by
  unfold vW at hr
  rcases List.mem_append.1 hr with hr | hr
  ·rw [(List.mem_replicate.1 hr).2]; exact ⟨Nat.zero_le _,fun x hx=>by simp at hx⟩
  ·rw [List.mem_singleton.1 hr]
   refine ⟨by simp; omega,fun x hx=>?_⟩
   rcases List.mem_append.1 hx with hx | hx
   ·rw [(List.mem_replicate.1 hx).2]; exact ⟨z0_lim,Nat.zero_le _⟩
   ·rw [List.mem_singleton.1 hx]; exact hc⟩
theorem gev_sng (c:Bool×List Nat) (i j:Nat) (x y:Int):gev (ww (vW c i j)) x y=jv c*(x^i*y^j):=by
 rw [gev_map]
 have e:(ww (vW c i j)).map (fun r=>pev r y)=List.replicate i 0++[jv c*y^j]:=by
  unfold ww vW
  rw [List.map_append,List.map_append,List.map_replicate,List.map_replicate]
  congr 1
  have e2:vv (List.replicate j z0++[c])=List.replicate j 0++[jv c]:=by
   unfold vv
   rw [List.map_append,List.map_replicate,jv_z0]; rfl
  simp only [List.map_cons,List.map_nil,e2]
  rw [ev_repl]
  simp [pev]; grind
 rw [e,ev_repl]
 simp [pev]; grind
theorem sngJ_gone (c:Int) (i:Nat):vW (cn c) i 0=toW (pO c i):=by
 show _=(List.replicate i ([]:List Int)++[[c]]).map (fun l=>l.map cn)
 unfold vW
 rw [List.map_append,List.map_replicate]; rfl
def lesR (p:Row):Nat→List (List Int)
 | 0=>ww (vW (cn (-1)) 0 1)
 | i+1=>gadd (lesR p i) (ww (vW (p.getD i z0) i 0))
theorem ev_app1 (l:List Int) (a x:Int):pev (l++[a]) x=pev l x+x^l.length*a:=by
 induction l with
 | nil=>simp [pev]
 | cons c l ih =>
  rw [List.cons_append,pev,pev,ih,List.length_cons,Int.pow_succ]; grind
theorem lesR_ev (p:Row) (x y:Int):∀ i,i≤p.length→gev (lesR p i) x y=pev ((vv p).take i) x - y
 | 0,_=>by rw [lesR,gev_sng,eM,Int.pow_one]; simp [pev]
 | i+1,h=>by
  rw [lesR,gev_gadd,gev_sng,lesR_ev p x y i qN]
  have hi:i<(vv p).length:=by rw [cP]; omega
  rw [List.take_add_one,List.getElem?_eq_getElem hi]
  have e:pev ((vv p).take i++[(vv p)[i]]) x=pev ((vv p).take i) x+x^i*(vv p)[i]:=by
   rw [ev_app1,List.length_take,Nat.min_eq_left qN]
  show _=pev ((vv p).take i++[(vv p)[i]]) x - y
  rw [e]
  have e3:(vv p)[i]=jv (p.getD i z0):=by
   rw [← lI p i qN,gE,List.getElem?_eq_getElem hi]; rfl
  rw [e3]; grind
def lesA (p:Row):Nat→List Row
 | 0=>vW (cn (-1)) 0 1
 | i+1=>toW (lesR p (i+1))
theorem lesA_lg {p:Row} {k n:Nat} (hp:Fit k p) (h1:1≤k) (hn:p.length+2≤n):∀ i,i≤p.length→Lg (lesA p i) (lesR p i) (k+i) n
 | 0,_=>sngJ_lg ((kK (-1) qE).mono h1) qN qN
 | i+1,h=>by
  have h1':=lesA_lg hp h1 hn i qN
  have h2:Lg (vW (p.getD i z0) i 0) (ww (vW (p.getD i z0) i 0)) (k+i) n:=sngJ_lgJ ⟨(hp.get i).1,Nat.le_trans (hp.get i).2 qN⟩ qN qN
  exact h1'.add h2
theorem gmu_same {G H H':List (List Int)} (h:∀ x y,gev H x y=gev H' x y):gmu G H=gmu G H':=(gmu_gn _ _).ev_ext (gmu_gn _ _) fun x y=>by rw [xL,xL,h]
set_option maxHeartbeats 4000000 in
theorem wH (v w u z:Value) (p:Row) (m t y:Bool×List Nat) (n:Int) (k a:Nat) (hp:Fit k p) (lp:p.length≤40) (h1k:1≤k) (hk:k≤10000) (hm:Lim m.2) (hma:m.2.length≤a) (ht:Lim t.2) (hta:t.2.length≤a) (hy:Lim y.2) (hya:y.2.length≤a) (h1a:1≤a) (ha:a≤10000) (hn:inK .i64 n) (hn3:n≤3) :
  Meets Tryz.prog 18 [v,w,u,z,.int .i64 n] [(v,V p),(w,J m),(u,J t),(z,J y)] (fun r os fs=>os=[]∧∃ q,r=.tuple #[q,.int .i64 (matR (vv p) (jv m) (jv t) (jv y) n).2]∧fs=[(q,wd (matR (vv p) (jv m) (jv t) (jv y) n).1)]):=by
 have hsm:∀ z,Meets Tryz.prog 44 [z] [(z,J m)] (fun r os fs=>os=[]∧fs=[]∧r=.int .i64 (jv m).sign):=fun z=>gT z m.1 m.2 hm qN
 have hst:∀ z,Meets Tryz.prog 44 [z] [(z,J t)] (fun r os fs=>os=[]∧fs=[]∧r=.int .i64 (jv t).sign):=fun z=>gT z t.1 t.2 ht qN
 have hsy:∀ z,Meets Tryz.prog 44 [z] [(z,J y)] (fun r os fs=>os=[]∧fs=[]∧r=.int .i64 (jv y).sign):=fun z=>gT z y.1 y.2 hy qN
 have hdl:dg (vv p)≤40:=by have:=dV (vv p); rw [cP] at this; omega
 have hdd:=rF v p (hp.mono qN)
 have hshp:=tZ ((dg (vv p):Nat) - 1:Int) n (by simp only [inK]; omega) hn
 by_cases hok:wM (vv p) (jv m) (jv t) (jv y) n
 case neg =>
  refine mV Tryz.func18 ?_
  refine bC (aB (d:=J m) qM) fun b1 h1=>?_
  refine bC (aB (d:=J t) qM) fun b2 h2=>?_
  refine bC (aB (d:=J y) qM) fun b3 h3=>?_
  refine cH hdd ?_
  refine cF hshp ?_
  rintro _ _ _ ⟨rfl,q,rfl,rfl⟩
  refine aE _ rfl (fun g1=>?_) (fun g1=>?_)
  ·
   rw [show matR (vv p) (jv m) (jv t) (jv y) n=([],1) from if_neg hok]
   exact fin ⟨rfl,.slice none 0 0,rfl,rfl⟩ (dS (dS (dS (a9 (dH 1 _) (aH _ _)))))
  refine aD (d:=J m) 2 rfl h1 rfl (bB _) fun y1=>?_
  refine cH (hsm y1) ?_
  refine aE _ rfl (fun g2=>?_) (fun g2=>?_)
  ·
   rw [show matR (vv p) (jv m) (jv t) (jv y) n=([],1) from if_neg hok]
   exact fin ⟨rfl,.slice none 0 0,rfl,rfl⟩ (dS (dS (dS (a9 (dH 1 _) (aH _ _)))))
  refine aD (d:=J t) 1 rfl h2 rfl (bB _) fun y2=>?_
  refine cH (hst y2) ?_
  refine aE _ rfl (fun g3=>?_) (fun g3=>?_)
  ·
   rw [show matR (vv p) (jv m) (jv t) (jv y) n=([],1) from if_neg hok]
   exact fin ⟨rfl,.slice none 0 0,rfl,rfl⟩ (dS (dS (dS (a9 (dH 1 _) (aH _ _)))))
  refine aD (d:=J y) 0 rfl h3 rfl (bB _) fun y3=>?_
  refine cH (hsy y3) ?_
  refine aE _ rfl (fun g4=>?_) (fun g4=>?_)
  ·
   rw [show matR (vv p) (jv m) (jv t) (jv y) n=([],1) from if_neg hok]
   exact fin ⟨rfl,.slice none 0 0,rfl,rfl⟩ (dS (dS (dS (a9 (dH 1 _) (aH _ _)))))
  exact absurd ⟨by omega,Int.not_lt.1 fun h=>g2 (s8.2 h),Int.not_lt.1 fun h=>g3 (iM.2 h),Int.not_lt.1 fun h=>g4 (iM.2 h)⟩ hok
 have hres:matR (vv p) (jv m) (jv t) (jv y) n=((shp (dg (vv p) - 1) n.toNat).map fun s=>qT (shp (dg (vv p) - 1) n.toNat) (gI (jv t)) (gI (jv y)) (uW (vv p) (jv m) n.toNat s),0):=if_pos hok
 rw [hres]
 clear hres
 obtain ⟨k1,k2,k3,k4⟩:=hok
 obtain ⟨j1,j2,j3,j4,j5,j6⟩:=shpR_ok k1
 obtain ⟨n,rfl⟩:∃ k:Nat,n=(k:Int):=⟨n.toNat,by omega⟩
 rw [Int.toNat_natCast] at *
 rw [show (((dg (vv p):Nat) - 1:Int)).toNat=dg (vv p) - 1 by omega] at j5 j6
 rw [k1,j6] at hshp
 have hpd:(nrm (vv p)).length=dg (vv p):=rfl
 obtain ⟨d,hd⟩:∃ d,dg (vv p)=d+1:=⟨dg (vv p) - 1,by omega⟩
 have hsg:∀ {s:Int},1≤s→¬ s.sign<1:=fun h g=>by have:=s8.1 g; omega
 have hsg0:∀ {s:Int},0≤s→¬ s.sign<0:=fun h g=>by have:=iM.1 g; omega
 have q2:=hsg k2
 have q3:=hsg0 k3
 have q4:=hsg0 k4
 rw [hd,Nat.add_sub_cancel] at hshp j5 ⊢
 rw [hd] at hdd
 have hne:nrm (vv p)≠[]:=fun e=>by rw [e] at hpd; simp at hpd; omega
 have hbig:=sZ d n
 have hmemS:∀ s,s∈shp d n→s.1≤23∧s.2≤3∧s.2≤n:=fun s hs=>by
  obtain ⟨x,y⟩:=s
  have h1:=sX.1 hs
  have h2:d*(n - y)≤d*n:=Nat.mul_le_mul_left _ qN
  simp only; omega
 have hm2:sz (jv m) a:=f8 hm hma
 have hles:=fun i (hi:i≤p.length)=>lesA_lg (n:=42) hp h1k qN i hi
 have hlev:∀ x y',gev (lesR p p.length) x y'=gev (iI (nrm (vv p))) x y':=fun x y'=>by
  rw [lesR_ev p x y' _ (Nat.le_refl _),gev_gless hne,dM,List.take_of_length_le (by rw [cP]; exact Nat.le_refl _)]
 have hadd:∀ i,i<p.length→∀ x1 x2,Meets Tryz.prog 62 [x1,x2] [(x1,W (lesA p i)),(x2,W (vW (p.getD i z0) i 0))] (fun r os fs=>os=[]∧fs=[(r,W (lesA p (i+1)))]):=fun i hi x1 x2=>by
  have h2:Lg (vW (p.getD i z0) i 0) (ww (vW (p.getD i z0) i 0)) (k+i) 42:=sngJ_lgJ ⟨(hp.get i).1,Nat.le_trans (hp.get i).2 qN⟩ qN qN
  exact rAdd12_meets x1 x2 (hles i qN) h2 qN qE
 have hgl:∀ s,s∈shp d n→∀ j,j≤s.2→Lg (toW (gpw (iI (nrm (vv p))) (pO (jv m^(n - s.2)) s.1) j)) (gpw (iI (nrm (vv p))) (pO (jv m^(n - s.2)) s.1) j) (23*a+1+3*(k+1)+100) 200:=fun s hs j hj=>by
  have h1:=hmemS s hs
  have h2:sz (jv m^(n - s.2)) (23*a+1):=(lL hm2 (n - s.2)).mono (Nat.succ_le_succ (Nat.mul_le_mul_right a qN))
  have h3:j*42≤3*42:=Nat.mul_le_mul_right _ qN
  have h4:j*(k+1)≤3*(k+1):=Nat.mul_le_mul_right _ qN
  have hl:Lg (toW (iI (nrm (vv p)))) (iI (nrm (vv p))) k 42:=(glJ_lg hp.szR.nrm h1k qN qE).toW
  exact (gpw_lg hl (gone_lg (n:=24) h2 qN) qE j qN).mono qN qN
 have hlN:=(hles p.length (Nat.le_refl _)).mono (show k+p.length≤23*a+1+3*(k+1)+100 by omega) (show 42≤200 by decide)
 have hmu:∀ s,s∈shp d n→∀ j,j<s.2→∀ x1 x2,Meets Tryz.prog 63 [x1,x2] [(x1,wd (gpw (iI (nrm (vv p))) (pO (jv m^(n - s.2)) s.1) j)),(x2,W (lesA p p.length))] (fun r os fs=>os=[]∧fs=[(r,wd (gpw (iI (nrm (vv p))) (pO (jv m^(n - s.2)) s.1) (j+1)))]):=fun s hs j hj x1 x2=>by
  have:=rMul12_meets x1 x2 (hgl s hs j qN) hlN qN qE
  rw [gmu_same hlev] at this
  exact this
 have hat:∀ s,s∈shp d n→∀ s' x1 x2,Meets Tryz.prog 64 [x1,x2] [(x1,wd (uW (vv p) (jv m) n s)),(x2,spE s')] (fun r os fs=>os=[]∧fs=[(r,zd (gv (uW (vv p) (jv m) n s) s'.1 s'.2))]):=fun s hs s' x1 x2 =>
  rAt17_meets x1 x2 s' (hgl s hs s.2 (Nat.le_refl _)) qN qE
 have hgz:∀ s,s∈shp d n→∀ u v,sz (gv (uW (vv p) (jv m) n s) u v) (23*a+1+3*(k+1)+100):=fun s hs u v=>(hgl s hs s.2 (Nat.le_refl _)).gv u v
 have hscl:∀ s,s∈shp d n→sz (jG (gI (jv t)) (gI (jv y)) s) (2*(23*a+1)):=fun s hs=>by
  have:=hmemS s hs
  exact sclV_sz (tC (f8 ht hta) h1a) (tC (f8 hy hya) h1a) ⟨this.1,by omega⟩
 have hsc:=fun s (hs:s∈shp d n) x1 x2 x3=>rScale_meets x1 x2 x3 t y s a ht hta hy hya qN (by have:=hmemS s hs; omega)
 have hmul:=fun s (hs:s∈shp d n) s' (hs':s'∈shp d n) x1 x2=>rMulZZ' x1 x2 (gv (uW (vv p) (jv m) n s) s'.1 s'.2) (jG (gI (jv t)) (gI (jv y)) s') (23*a+1+3*(k+1)+100+2*(23*a+1)) ((hgz s hs _ _).mono qN) ((hscl s' hs').mono qN) qN
 have hpw:=fun (i:Nat) (hi:i≤n) y1=>rPowerJ y1 m i a hm hma (by have:(i+1)*(a+1)≤4*(a+1):=Nat.mul_le_mul_right _ qN; omega)
 have hsing:=fun x1 (i:Nat) (hi:i≤1000) c=>rB x1 c i 0 hi qE
 have hsing1:=fun x1=>rB x1 (cn (-1)) 0 1 qE qE
 have hmG:∀ s,gpw (iI (nrm (vv p))) (pO (jv m^(n - s.2)) s.1) s.2=uW (vv p) (jv m) n s:=fun _=>rfl
 clear hgl hscl hm2 k2 k3 k4 j1 hk hdl hles hlev hlN hgz hbig
 generalize nrm (vv p)=L at *
 generalize hT:gI (jv t)=T at *
 generalize hY:gI (jv y)=Y at *
 generalize hS:shp d n=S at *
 generalize hGG:uW (vv p) (jv m) n=GG at *
 refine mV Tryz.func18 ?_
 refine bC (aB (d:=J m) qM) fun b1 h1=>?_
 refine bC (aB (d:=J t) qM) fun b2 h2=>?_
 refine bC (aB (d:=J y) qM) fun b3 h3=>?_
 refine cH hdd ?_
 refine cF hshp ?_
 rintro _ _ _ ⟨rfl,q,rfl,rfl⟩
 refine bY rfl (fun h=>h rfl) ?_
 refine aD (d:=J m) 2 rfl h1 rfl (bB _) fun y1=>?_
 refine cH (hsm y1) ?_
 refine bY rfl q2 ?_
 refine aD (d:=J t) 1 rfl h2 rfl (bB _) fun y2=>?_
 refine cH (hst y2) ?_
 refine bY rfl q3 ?_
 refine aD (d:=J y) 0 rfl h3 rfl (bB _) fun y3=>?_
 refine cH (hsy y3) ?_
 refine bY rfl q4 ?_
 refine cG (iN (-1) qE qE) fun y4=>?_
 refine cG (hsing1 y4) fun l0=>?_
 refine aQ (X:=Nat×Value) (fun x=>([(0,v),(4,.int .i64 (n:Nat)),(6,b1),(7,b2),(8,b3),(12,q),(14,x.2),(15,.int .i64 (x.1:Nat))],[bL b3 2 1 (fun _=>J y),bL b2 2 1 (fun _=>J t),bL b1 2 1 (fun _=>J m)],[(x.2,W (lesA p x.1)),(q,ShD S),(v,V p)]))
  (fun x=>x.1≤p.length) (fun x=>p.length - x.1) rfl ?_ ?_
 ·exact aT (0,l0) (Nat.zero_le _) trivial qF (aA qS)
 rintro ⟨i,lv⟩ hi
 simp only at hi ⊢
 refine aP (v:=v) (n:=p.length) qM fun _=>?_
 refine aE _ rfl (fun hlt=>?_) (fun hlt=>?_)
 ·have hip:i<p.length:=by omega
  refine aL (v:=v) qM i rfl hip fun a1=>?_
  refine aU (d:=J (p.getD i z0)) qM (bB _) fun y5=>?_
  refine cG (hsing y5 i qN (p.getD i z0)) fun y6=>?_
  refine cG (hadd i hip lv y6) fun y7=>?_
  refine ar rfl qI ?_
  exact aT (i+1,y7) (by simp only; omega) (by simp only; omega) qF (aA qS)
 have hip:i=p.length:=by omega
 subst hip
 refine iY (size:=1) (e:=22) vd [] qE fun o0 ho0=>?_
 refine aQ (X:=Nat×Value) (fun x=>([(4,.int .i64 (n:Nat)),(6,b1),(7,b2),(8,b3),(12,q),(14,lv),(16,x.2),(17,.int .i64 (x.1:Nat))],[gW 1 vd [] x.2 ((S.take x.1).map fun s=>qT S T Y (GG s)),bL b3 2 1 (fun _=>J y),bL b2 2 1 (fun _=>J t),bL b1 2 1 (fun _=>J m)],[(q,ShD S),(lv,W (lesA p p.length))]))
  (fun x=>x.1≤S.length∧isSl x.2) (fun x=>S.length - x.1) rfl ?_ ?_
 ·exact aT (0,o0) ⟨Nat.zero_le _,ho0⟩ trivial qF (aA qS)
 rintro ⟨i,xo⟩ ⟨hi,hxo⟩
 simp only at hi hxo ⊢
 refine aP (v:=q) (n:=S.length) qM fun _=>?_
 refine aE _ rfl (fun hlt=>?_) (fun hlt=>?_)
 ·have his:i<S.length:=by omega
  have hin:S.getD i (0,0)∈S:=dO (0,0) his
  have hb:=hmemS _ hin
  have hmu':=hmu _ hin
  have hat':=hat _ hin
  have hmul':=hmul _ hin
  have hmG':=hmG (S.getD i (0,0))
  have htk:(S.take (i+1)).map (fun s=>qT S T Y (GG s))=(S.take i).map (fun s=>qT S T Y (GG s))++[qT S T Y (GG (S.getD i (0,0)))]:=by
   rw [List.take_add_one,List.getElem?_eq_getElem his,List.map_append,gE,List.getElem?_eq_getElem his]; rfl
  have htl:((S.take i).map fun s=>qT S T Y (GG s)).length=i:=by rw [List.length_map,List.length_take]; omega
  generalize hgs:GG (S.getD i (0,0))=gs at *
  refine a0 [0,1,2,3,4,5,6,7,9,10,11,12,13,8,14,15] [0,1,2,3,4,5,6,7,8,9,10,11,12,13,14,15] qK qK ?_
  refine aD (d:=J m) 3 rfl h1 rfl (bB _) fun y5=>?_
  refine aL (v:=q) qM i rfl his fun a1=>?_
  refine nH (v:=a1) (d:=spE (S.getD i (0,0))) qM 1 rfl qE (aS (aJ _)) fun a2=>?_
  refine bJ (p:=a2) qM ?_
  refine ar (n:=((n - (S.getD i (0,0)).2:Nat):Int)) (by simp only [arZ,Option.some.injEq]; omega) qI ?_
  refine aL (v:=q) qM i rfl his fun a3=>?_
  refine nH (v:=a3) (d:=spE (S.getD i (0,0))) qM 0 rfl qE (aY (aJ _)) fun a4=>?_
  refine bJ (p:=a4) qM ?_
  refine cG (hpw (n - (S.getD i (0,0)).2) qN y5) fun y6=>?_
  refine cG (hsing y6 (S.getD i (0,0)).1 qN (cn (jv m^(n - (S.getD i (0,0)).2)))) fun y7=>?_
  rw [sngJ_gone]
  refine aQ (X:=Nat×Value) (fun x=>([(4,.int .i64 (n:Nat)),(6,b1),(7,b2),(8,b3),(12,q),(14,lv),(16,xo),(17,.int .i64 (i:Nat)),(18,x.2),(19,.int .i64 (x.1:Nat))],[gW 1 vd [] xo ((S.take i).map fun s=>qT S T Y (GG s)),bL b3 2 1 (fun _=>J y),bL b2 2 1 (fun _=>J t),bL b1 2 1 (fun _=>J m)],
    [(x.2,wd (gpw (iI L) (pO (jv m^(n - (S.getD i (0,0)).2)) (S.getD i (0,0)).1) x.1)),(q,ShD S),(lv,W (lesA p p.length))]))
   (fun x=>x.1≤(S.getD i (0,0)).2) (fun x=>(S.getD i (0,0)).2 - x.1) rfl ?_ ?_
  ·exact aT (0,y7) (Nat.zero_le _) trivial qF (aA qS)
  rintro ⟨j,gx⟩ hj
  simp only at hj ⊢
  refine aL (v:=q) qM i rfl his fun a5=>?_
  refine nH (v:=a5) (d:=spE (S.getD i (0,0))) qM 1 rfl qE (aS (aJ _)) fun a6=>?_
  refine bJ (p:=a6) qM ?_
  refine aE _ rfl (fun hlt2=>?_) (fun hlt2=>?_)
  ·
   refine cG (hmu' j qN gx lv) fun y8=>?_
   refine ar rfl qI ?_
   exact aT (j+1,y8) (by simp only; omega) (by simp only; omega) qF (aA qS)
  have hjp:j=(S.getD i (0,0)).2:=by omega
  subst hjp
  rw [hmG']
  refine iY (size:=2) (e:=26) J z0 qE fun r0 hr0=>?_
  refine aQ (X:=Nat×Value) (fun x=>([(4,.int .i64 (n:Nat)),(6,b1),(7,b2),(8,b3),(12,q),(14,lv),(16,xo),(17,.int .i64 (i:Nat)),(18,gx),(20,x.2),(21,.int .i64 (x.1:Nat))],
    [gW 2 J z0 x.2 (((S.take x.1).map fun s=>gv gs s.1 s.2*jG T Y s).map cn),gW 1 vd [] xo ((S.take i).map fun s=>qT S T Y (GG s)),bL b3 2 1 (fun _=>J y),bL b2 2 1 (fun _=>J t),bL b1 2 1 (fun _=>J m)],[(gx,wd gs),(q,ShD S),(lv,W (lesA p p.length))]))
   (fun x=>x.1≤S.length∧isSl x.2) (fun x=>S.length - x.1) rfl ?_ ?_
  ·exact aT (0,r0) ⟨Nat.zero_le _,hr0⟩ trivial qF (aA qS)
  rintro ⟨e,rv'⟩ ⟨he,hrv⟩
  simp only at he hrv ⊢
  refine aP (v:=q) (n:=S.length) qM fun _=>?_
  refine aE _ rfl (fun hlt3=>?_) (fun hlt3=>?_)
  ·have heS:e<S.length:=by omega
   have hin2:S.getD e (0,0)∈S:=dO (0,0) heS
   have htk2:(S.take (e+1)).map (fun s=>gv gs s.1 s.2*jG T Y s)=(S.take e).map (fun s=>gv gs s.1 s.2*jG T Y s)++[gv gs (S.getD e (0,0)).1 (S.getD e (0,0)).2*jG T Y (S.getD e (0,0))]:=by
    rw [List.take_add_one,List.getElem?_eq_getElem heS,List.map_append,gE,List.getElem?_eq_getElem heS]; rfl
   have htl2:(((S.take e).map fun s=>gv gs s.1 s.2*jG T Y s).map cn).length=e:=by rw [List.length_map,List.length_map,List.length_take]; omega
   refine a0 [0,1,2,3,4,5,7,8,9,10,11,12,6,13,14,15,16,17] [0,1,2,3,4,5,6,7,8,9,10,11,12,13,14,15,16,17] qK qK ?_
   refine aL (v:=q) qM e rfl heS fun a7=>?_
   refine aU (d:=spE (S.getD e (0,0))) qM (w7 _) fun y8=>?_
   refine aD (d:=J t) 3 rfl h2 rfl (bB _) fun y9=>?_
   refine aD (d:=J y) 2 rfl h3 rfl (bB _) fun y10=>?_
   refine aL (v:=q) qM e rfl heS fun a8=>?_
   refine aU (d:=spE (S.getD e (0,0))) qM (w7 _) fun y11=>?_
   refine cG (hat' (S.getD e (0,0)) gx y8) fun y12=>?_
   refine cG (hsc _ hin2 y9 y10 y11) fun y13=>?_
   refine cG (hmul' _ hin2 y12 y13) fun y14=>?_
   refine iH (size:=2) J z0 (cn (gv gs (S.getD e (0,0)).1 (S.getD e (0,0)).2*jG T Y (S.getD e (0,0)))) qE (aB (v:=y14) (d:=zd (gv gs (S.getD e (0,0)).1 (S.getD e (0,0)).2*jG T Y (S.getD e (0,0)))) qM) rfl fun l1=>?_
   refine dL 0 rfl hrv (bA qM) (by rw [htl2]; simp only [List.length_cons,List.length_nil]; omega) (by rw [htl2]; simp only [List.length_cons,List.length_nil]; omega) fun r2 hr2=>?_
   refine ar rfl qI ?_
   refine aT (e+1,r2) ⟨by simp only; omega,hr2⟩ (by simp only; omega) qF ?_
   simp only [htk2,List.map_append,List.map_cons,List.map_nil]
   exact aA qS
  have heS:e=S.length:=by omega
  subst heS
  have hrow:(S.take S.length).map (fun s=>gv gs s.1 s.2*jG T Y s)=qT S T Y gs:=by rw [List.take_length]; rfl
  rw [hrow]
  refine BuildSliceK.pre (cO hrv) ?_
  refine iH (size:=1) (e:=22) vd [] (qT S T Y gs) qE (aB (v:=rv') (d:=vd (qT S T Y gs)) qM) rfl fun l3=>?_
  refine dL (size:=1) (e:=22) (f:=vd) (z:=[]) (l:=(S.take i).map fun s=>qT S T Y (GG s)) (m:=[qT S T Y gs]) 0 rfl hxo (bA qM) (by rw [htl]; simp only [List.length_cons,List.length_nil]; omega) (by rw [htl]; simp only [List.length_cons,List.length_nil]; omega) fun xo2 hxo2=>?_
  refine ar rfl qI ?_
  refine aT (i+1,xo2) ⟨by simp only; omega,hxo2⟩ (by simp only; omega) qF ?_
  simp only
  rw [htk]
  exact aA qS
 ·have his:i=S.length:=by omega
  subst his
  rw [List.take_length]
  refine fin ⟨rfl,xo,rfl,rfl⟩ (aC (Seals.L (f:=vd) (z:=[]) 0 rfl hxo) (dS (dS (aC (aX 0 _ _) ?_))))
  exact a9 (Knw.cast (bA (List.Mem.head _)) (LD_wd _)) (aH _ _)
theorem lS (v:Value) (l:List Int) (hl:l.length≤1000) (hz:∀ x,x∈l → -9223372036854775808≤x∧x<9223372036854775808) :
  Meets Tryz.prog 48 [v] [(v,IL l)] (fun r os fs=>os=[]∧fs=[(r,vd l)]):=by
 have hfin:lst l.length (fun i=>l.getD i 0)=l:=by
  have:=lst_map l fun x=>x
  rw [List.map_id'] at this
  exact this
 have hg:∀ i,i<l.length → -9223372036854775808≤l.getD i 0∧l.getD i 0<9223372036854775808:=fun i hi=>hz _ (dO 0 hi)
 refine mV Tryz.func48 ?_
 refine iY (size:=2) (e:=26) J z0 qE fun v0 hv0=>?_
 refine aQ (X:=Value×Nat) (fun x=>([(0,v),(3,x.1),(4,.int .i64 (x.2:Nat))],[gW 2 J z0 x.1 ((lst x.2 fun i=>l.getD i 0).map cn)],[(v,IL l)])) (fun x=>isSl x.1∧x.2≤l.length) (fun x=>l.length - x.2) rfl ?_ ?_
 ·exact aT (v0,0) ⟨hv0,Nat.zero_le _⟩ trivial qF (aA qS)
 ·rintro ⟨vo,i⟩ ⟨hvo,h2⟩
  simp only at hvo h2 ⊢
  refine aP qM fun _=>?_
  refine aE _ rfl (fun hlt=>?_) (fun hlt=>?_)
  ·have hin:i<l.length:=by omega
   have hll:(lst i fun i=>l.getD i 0).length=i:=dI _ _
   refine aL qM i rfl hin fun a1=>?_
   refine bJ qM ?_
   refine cG (iN (l.getD i 0) (hg i hin).1 (hg i hin).2) fun y=>?_
   refine iH (size:=2) (f:=J) (z:=z0) (e:=26) (cn (l.getD i 0)) qE (aB qM) rfl fun y4=>?_
   refine dL (size:=2) (e:=26) (f:=J) (z:=z0) (l:=(lst i fun i=>l.getD i 0).map cn) (m:=[cn (l.getD i 0)]) 0 rfl hvo (bA qM) (by simp only [List.length_map,hll,List.length_cons,List.length_nil]; omega) (by simp only [List.length_map,hll,List.length_cons,List.length_nil]; omega) fun vn hvn=>?_
   refine ar rfl qI ?_
   refine aT (vn,i+1) ⟨hvn,by simp only; omega⟩ (by simp only; omega) qF ?_
   rw [show (lst i fun i=>l.getD i 0).map cn++[cn (l.getD i 0)]=(lst (i+1) fun i=>l.getD i 0).map cn by rw [pG,List.map_append]; rfl]
   exact aA qS
  ·have hii:i=l.length:=by omega
   subst hii
   refine fin ⟨rfl,rfl⟩ (aC (cO hvo) ?_)
   rw [hfin]
   exact aA qS
theorem fK (x:Int) (h1 : -9223372036854775808≤x) (h2:x<9223372036854775808) :
  Meets Tryz.prog 23 [.int .i64 x] [] (fun r os fs=>os=[]∧fs=[(r,zd x)]):=by
 refine mV Tryz.func23 ?_
 refine aK (d:=I false []) fun o ho=>?_
 refine cG (iN x h1 h2) fun y=>?_
 refine aF (d:=zd x) 0 rfl ho rfl qK (aB (v:=y) qM) ?_
 refine aD (d:=zd x) 0 rfl ho rfl (aM _ _) fun r=>?_
 exact fin ⟨rfl,rfl⟩ (dS (aA qS))
def iJ (p:Row) (m t y:Bool×List Nat) (n:Int):Dat:=.cat (V p) (.cat (J m) (.cat (J t) (.cat (J y) (.one (.int .i64 n)))))
theorem info_ask:(Tryz.prog.info? 28).map (fun i=>(i.zero,i.size,i.bytes))=some (some (.agg #[.slice none 0 0,.bool false,.slice none 0 0,.bool false,.slice none 0 0,.bool false,.slice none 0 0,.int .i64 0]),8,128):=by kernel_rfl
instance iCYo1:TAgg Tryz.prog 28 8:=⟨⟨_,Tryz.underlying28,rfl⟩,by kernel_rfl⟩
instance iCYo2:uR Tryz.prog 28 0 0:=⟨_,_,Tryz.underlying28,rfl,rfl,0,by kernel_rfl⟩
instance iCYo3:uR Tryz.prog 28 1 1:=⟨_,_,Tryz.underlying28,rfl,rfl,1,by kernel_rfl⟩
instance iCYo4:uR Tryz.prog 28 2 3:=⟨_,_,Tryz.underlying28,rfl,rfl,1,by kernel_rfl⟩
instance iCYo5:uR Tryz.prog 28 3 5:=⟨_,_,Tryz.underlying28,rfl,rfl,1,by kernel_rfl⟩
instance iCYo6:uR Tryz.prog 28 4 7:=⟨_,_,Tryz.underlying28,rfl,rfl,0,by kernel_rfl⟩
def askZ:Dat:=iJ [] z0 z0 z0 0
theorem askZ_rd (S:Nat→Prop) (w:World):RdC S w askZ [.slice none 0 0,.bool false,.slice none 0 0,.bool false,.slice none 0 0,.bool false,.slice none 0 0,.int .i64 0] :=
 ⟨[_],[.bool false,.slice none 0 0,.bool false,.slice none 0 0,.bool false,.slice none 0 0,.int .i64 0],rfl,gH S w 2 _,[.bool false,.slice none 0 0],[.bool false,.slice none 0 0,.bool false,.slice none 0 0,.int .i64 0],rfl,⟨[.bool false],[.slice none 0 0],rfl,eI S w,gH S w 1 _⟩,
  [.bool false,.slice none 0 0],[.bool false,.slice none 0 0,.int .i64 0],rfl,⟨[.bool false],[.slice none 0 0],rfl,eI S w,gH S w 1 _⟩,[.bool false,.slice none 0 0],[.int .i64 0],rfl,⟨[.bool false],[.slice none 0 0],rfl,eI S w,gH S w 1 _⟩,⟨rfl,rfl⟩⟩
instance tzAsk:nQ Tryz.prog 28 askZ:=vQ info_ask fun S w=>askZ_rd S w
theorem rV (p:Row) (m t y:Bool×List Nat) (n:Int):jY Tryz.prog 28 (iJ p m t y n):=(inferInstance:TAgg Tryz.prog 28 8)
class TAsk (P:Program) (t:TypeId):Prop where
 und:∃ fs f0 f1 f2 f3 f4,P.underlying t=some (.struct fs)∧fs = #[f0,f1,f2,f3,f4]∧f0.offset=0∧f1.offset=1∧f2.offset=3∧f3.offset=5∧f4.offset=7∧(P.info? f0.type).map (·.size)=some 1∧(P.info? f1.type).map (·.size)=some 2∧(P.info? f2.type).map (·.size)=some 2∧(P.info? f3.type).map (·.size)=some 2∧(P.info? f4.type).map (·.size)=some 1
 zero:∃ i,P.info? t=some i∧i.zero=some (.agg #[.slice none 0 0,.bool false,.slice none 0 0,.bool false,.slice none 0 0,.bool false,.slice none 0 0,.int .i64 0])
instance iCYo7:TAsk Tryz.prog 28:=⟨⟨_,_,_,_,_,_,Tryz.underlying28,rfl,rfl,rfl,rfl,rfl,rfl,by kernel_rfl,by kernel_rfl,by kernel_rfl,by kernel_rfl,by kernel_rfl⟩,by
 obtain ⟨i,h1,_,_,h4⟩:=l5 info_ask
 exact ⟨i,h1,h4⟩⟩
theorem run_ask {P:Program} {t:TypeId} (ht:TAsk P t) {v a b c d e f:Value} {n:Int} (hv:v.cells = #[v]) (w:World) :
  (Instr.build t #[(0,v),(1,.agg #[a,b]),(2,.agg #[c,d]),(3,.agg #[e,f]),(4,.int .i64 n)]).run P w=.ok (.agg #[v,a,b,c,d,e,f,.int .i64 n]) w:=by
 obtain ⟨_,f0,f1,f2,f3,f4,h1,rfl,h3,h4,h5,h6,h7,h8,h9,h10,h11,h12⟩:=ht.und
 obtain ⟨i,k1,k2⟩:=ht.zero
 have e1:∀ l,(Value.agg l).cells=l:=fun _=>rfl
 have e2:∀ k x,(Value.int k x).cells = #[Value.int k x]:=fun _ _=>rfl
 simp [Instr.build,zeroValue,typeInfo,k1,k2,run_underlying h1,bT h8,bT h9,bT h10,bT h11,bT h12,h3,h4,h5,h6,h7,Instr.fill,e1,e2,hv,Array.zipIdx]
theorem build_ask {P:Program} {t:TypeId} [ht:TAsk P t] {v a b c:Value} {p:Row} {m t' y:Bool×List Nat} {n:Int} {os:List Own} {fs:List bK} {K:cE} (hv:(v,V p)∈fs) (ha:(a,J m)∈fs) (hb:(b,J t')∈fs) (hc:(c,J y)∈fs)
  (k:∀ u,K u os ((u,iJ p m t' y n)::fs)):p4 P t [(0,v),(1,a),(2,b),(3,c),(4,.int .i64 n)] os fs K:=by
 refine ⟨fun G w hw=>?_⟩
 have h0:=flat_up rfl (hw.facts _ hv)
 obtain ⟨c1,a1,e1⟩:=hw.facts _ ha
 obtain ⟨c2,a2,e2⟩:=hw.facts _ hb
 obtain ⟨c3,a3,e3⟩:=hw.facts _ hc
 obtain ⟨x1,x2,rfl⟩:=RdC.two' a1 rfl
 obtain ⟨x3,x4,rfl⟩:=RdC.two' a2 rfl
 obtain ⟨x5,x6,rfl⟩:=RdC.two' a3 rfl
 obtain rfl:a=.agg #[x1,x2]:=e1
 obtain rfl:b=.agg #[x3,x4]:=e2
 obtain rfl:c=.agg #[x5,x6]:=e3
 obtain ⟨aa,cc,rfl⟩:=one_slice (hw.facts _ hv)
 exact ⟨_,_,fun w' _=>dK (run_ask ht rfl w'),k _,hw.put ⟨[_,x1,x2,x3,x4,x5,x6,.int .i64 n],⟨[_],[x1,x2,x3,x4,x5,x6,.int .i64 n],rfl,h0,[x1,x2],[x3,x4,x5,x6,.int .i64 n],rfl,a1,[x3,x4],[x5,x6,.int .i64 n],rfl,a2,[x5,x6],[.int .i64 n],rfl,a3,⟨rfl,rfl⟩⟩,rfl⟩⟩
theorem pt_p (p:Row) (m t y:Bool×List Nat) (n:Int):Part 0 (iJ p m t y n) (V p):=aY (aJ _)
theorem pt_m (p:Row) (m t y:Bool×List Nat) (n:Int):Part 1 (iJ p m t y n) (J m):=aS (aY (aJ _))
theorem pt_t (p:Row) (m t y:Bool×List Nat) (n:Int):Part 3 (iJ p m t y n) (J t):=aS (aS (aY (aJ _)))
theorem pt_y (p:Row) (m t y:Bool×List Nat) (n:Int):Part 5 (iJ p m t y n) (J y):=aS (aS (aS (aY (aJ _))))
theorem pt_n (p:Row) (m t y:Bool×List Nat) (n:Int):Part 7 (iJ p m t y n) (.one (.int .i64 n)):=aS (aS (aS (aS (aJ _))))
theorem fits7_meets (v:Value) (p:Row) (m t y:Bool×List Nat) (n:Int) :
  Meets Tryz.prog 11 [v] [(v,iJ p m t y n)] (fun r os fs=>os=[]∧fs=[]∧∃ b,r=.bool b∧(b=true→smallR 4 2 p∧m.2.length≤2∧t.2.length≤2∧y.2.length≤2)):=by
 refine mV Tryz.func11 ?_
 refine jT (aB (d:=iJ p m t y n) qM) fun bq=>?_
 refine bQ (p:=bq) (d:=iJ p m t y n) qM (pt_p p m t y n) fun a1=>?_
 refine aU (p:=a1) (d:=V p) qM (jN _) fun y1=>?_
 refine cH (rFits_meets y1 p 4 2) ?_
 by_cases hs:p.length≤4∧∀ x,x∈p→x.2.length≤2
 case neg =>
  rw [decide_eq_false hs]
  exact fin ⟨rfl,rfl,false,rfl,fun h=>by simp at h⟩ (aH _ _)
 rw [decide_eq_true hs]
 refine bQ (p:=bq) (d:=iJ p m t y n) qM (pt_m p m t y n) fun a1=>?_
 refine bQ (p:=a1) (off:=1) (d:=J m) (d':=U (m).2) qM (aS (aJ _)) fun a2=>?_
 refine aU (p:=a2) (d:=U (m).2) qM (cV _) fun u1=>?_
 refine aP (v:=u1) (n:=(m).2.length) qM fun _=>?_
 refine aE _ rfl (fun h1=>?_) (fun h1=>?_)
 case refine_2 =>
  exact fin ⟨rfl,rfl,false,rfl,fun h=>by simp at h⟩ (aH _ _)
 refine bQ (p:=bq) (d:=iJ p m t y n) qM (pt_t p m t y n) fun a1=>?_
 refine bQ (p:=a1) (off:=1) (d:=J t) (d':=U (t).2) qM (aS (aJ _)) fun a2=>?_
 refine aU (p:=a2) (d:=U (t).2) qM (cV _) fun u1=>?_
 refine aP (v:=u1) (n:=(t).2.length) qM fun _=>?_
 refine aE _ rfl (fun h2=>?_) (fun h2=>?_)
 case refine_2 =>
  exact fin ⟨rfl,rfl,false,rfl,fun h=>by simp at h⟩ (aH _ _)
 refine bQ (p:=bq) (d:=iJ p m t y n) qM (pt_y p m t y n) fun a1=>?_
 refine bQ (p:=a1) (off:=1) (d:=J y) (d':=U (y).2) qM (aS (aJ _)) fun a2=>?_
 refine aU (p:=a2) (d:=U (y).2) qM (cV _) fun u1=>?_
 refine aP (v:=u1) (n:=(y).2.length) qM fun _=>?_
 refine aE _ rfl (fun h3=>?_) (fun h3=>?_)
 case refine_2 =>
  exact fin ⟨rfl,rfl,false,rfl,fun h=>by simp at h⟩ (aH _ _)
 exact fin ⟨rfl,rfl,true,rfl,fun _=>⟨hs,by omega,by omega,by omega⟩⟩ (aH _ _)
theorem rOwnT (v:Value) (a:Row) (ll:a.length≤274877906944) (hk:∀ x,x∈a→x.2.length≤1099511627776) :
  Meets Tryz.prog 50 [v] [(v,V a)] (fun r os fs=>os=[]∧fs=[(r,V a)]) :=
 (rOwn_meets v a ll hk).closed fun r os fs ⟨h1,h2,h3⟩=>⟨_,_,⟨rfl,rfl⟩,by
  subst h1 h3
  exact Seals.L (f:=J) (z:=z0) 0 rfl h2⟩
theorem own7_meets (v:Value) (p:Row) (m t y:Bool×List Nat) (n:Int) (hp:smallR 4 2 p) (hm:m.2.length≤2) (ht:t.2.length≤2) (hy:y.2.length≤2) :
  Meets Tryz.prog 12 [v] [(v,iJ p m t y n)] (fun r os fs=>os=[]∧fs=[(r,iJ p m t y n)]):=by
 have h1:=fun z=>rOwnT z [m,t,y] qP (fun x hx=>by
  simp only [List.mem_cons,List.not_mem_nil,or_false] at hx
  rcases hx with rfl | rfl | rfl <;> omega)
 have h2:=fun z=>rOwnT z p (by have:=hp.1; omega) (fun x hx=>by have:=hp.2 x hx; omega)
 refine mV Tryz.func12 ?_
 refine jT (aB (d:=iJ p m t y n) qM) fun bq=>?_
 refine aK (d:=askZ) fun o ho=>?_
 refine bQ (p:=bq) (d:=iJ p m t y n) qM (pt_m p m t y n) fun a1=>?_
 refine aU (p:=a1) (d:=J m) qM (bB _) fun y1=>?_
 refine bQ (p:=bq) (d:=iJ p m t y n) qM (pt_t p m t y n) fun a1=>?_
 refine aU (p:=a1) (d:=J t) qM (bB _) fun y2=>?_
 refine bQ (p:=bq) (d:=iJ p m t y n) qM (pt_y p m t y n) fun a1=>?_
 refine aU (p:=a1) (d:=J y) qM (bB _) fun y3=>?_
 refine cX (size:=2) (n:=3) [y1,y2,y3] [J m,J t,J y] rfl rfl qE qE ⟨aB qM,rfl,aB qM,rfl,aB qM,rfl,trivial⟩ fun l1=>?_
 refine CallK.pre (a9 (v:=l1) (d:=V [m,t,y]) (Knw.cast (Knw.sl_cong (e':=fun i=>J ([m,t,y].getD i z0)) (bA (List.Mem.head _)) fun i hi=>?_) rfl) (aA fun _ hF=>.tail _ hF)) ?_
 ·match i,hi with
  | 0,_=>rfl
  | 1,_=>rfl
  | 2,_=>rfl
 refine cG (h1 l1) fun l2=>?_
 refine a0 [0,1,3,4,5,6,7,8,9,10,11,12,13,2,14,15] [0,1,2,3,4,5,6,7,8,9,10,11,12,13,14,15] qK qK ?_
 refine bQ (p:=bq) (d:=iJ p m t y n) qM (pt_p p m t y n) fun a1=>?_
 refine aU (p:=a1) (d:=V p) qM (jN _) fun y4=>?_
 refine aL (v:=l2) qM 0 rfl qP fun a3=>?_
 refine aU (p:=a3) (d:=J m) qM (bB _) fun y5=>?_
 refine aL (v:=l2) qM 1 rfl qP fun a4=>?_
 refine aU (p:=a4) (d:=J t) qM (bB _) fun y6=>?_
 refine aL (v:=l2) qM 2 rfl qP fun a5=>?_
 refine aU (p:=a5) (d:=J y) qM (bB _) fun y7=>?_
 refine bQ (p:=bq) (d:=iJ p m t y n) qM (pt_n p m t y n) fun a1=>?_
 refine bJ (p:=a1) qM ?_
 refine cG (h2 y4) fun y8=>?_
 refine build_ask (v:=y8) (a:=y5) (b:=y6) (c:=y7) qM qM qM qM fun u=>?_
 refine aF (d:=iJ p m t y n) 0 rfl ho rfl qK (aB (v:=u) qM) ?_
 refine aD (d:=iJ p m t y n) 0 rfl ho rfl (rV _ _ _ _ _) fun r=>?_
 exact fin ⟨rfl,rfl⟩ (dS (aA qS))
theorem kept7_meets (v w:Value) (p:Row) (m t y:Bool×List Nat) (n:Int) :
  Meets Tryz.prog 21 [v,w] [(v,iJ p m t y n),(w,iJ p m t y n)] (fun r os fs=>os=[]∧fs=[]∧r=.bool true):=by
 have he:∀ x z1 z2,Meets Tryz.prog 47 [z1,z2] [(z1,J x),(z2,J x)] (fun r os fs=>os=[]∧fs=[]∧r=.bool true):=fun x z1 z2=>by
  have:=xT z1 z2 x x
  rw [decide_eq_true rfl] at this
  exact this
 have ha:∀ z1 z2,Meets Tryz.prog 26 [z1,z2] [(z1,V p),(z2,V p)] (fun r os fs=>os=[]∧fs=[]∧r=.bool true):=fun z1 z2=>by
  have:=mP z1 z2 p p
  rw [decide_eq_true rfl] at this
  exact this
 refine mV Tryz.func21 ?_
 refine jT (aB (v:=v) (d:=iJ p m t y n) qM) fun bq=>?_
 refine jT (aB (v:=w) (d:=iJ p m t y n) qM) fun bw=>?_
 refine bQ (p:=bq) (d:=iJ p m t y n) qM (pt_p p m t y n) fun a1=>?_
 refine aU (p:=a1) (d:=V p) qM (jN _) fun y1=>?_
 refine bQ (p:=bw) (d:=iJ p m t y n) qM (pt_p p m t y n) fun a1=>?_
 refine aU (p:=a1) (d:=V p) qM (jN _) fun y2=>?_
 refine cH (ha y1 y2) ?_
 refine bQ (p:=bq) (d:=iJ p m t y n) qM (pt_m p m t y n) fun a1=>?_
 refine aU (p:=a1) (d:=J m) qM (bB _) fun y3=>?_
 refine bQ (p:=bw) (d:=iJ p m t y n) qM (pt_m p m t y n) fun a1=>?_
 refine aU (p:=a1) (d:=J m) qM (bB _) fun y4=>?_
 refine cH (he m y3 y4) ?_
 refine bQ (p:=bq) (d:=iJ p m t y n) qM (pt_t p m t y n) fun a1=>?_
 refine aU (p:=a1) (d:=J t) qM (bB _) fun y5=>?_
 refine bQ (p:=bw) (d:=iJ p m t y n) qM (pt_t p m t y n) fun a1=>?_
 refine aU (p:=a1) (d:=J t) qM (bB _) fun y6=>?_
 refine cH (he t y5 y6) ?_
 refine bQ (p:=bq) (d:=iJ p m t y n) qM (pt_y p m t y n) fun a1=>?_
 refine aU (p:=a1) (d:=J y) qM (bB _) fun y7=>?_
 refine bQ (p:=bw) (d:=iJ p m t y n) qM (pt_y p m t y n) fun a1=>?_
 refine aU (p:=a1) (d:=J y) qM (bB _) fun y8=>?_
 refine cH (he y y7 y8) ?_
 exact fin ⟨rfl,rfl,rfl⟩ (aH _ _)
open Go.RowKit Go.ChangeShapes Go.WideShapes Go.ChangeAt Go.Deep
section
variable {H:Type} {enc:TypeId×Value→H} {w:World} {base:Nat} {spare:Nat→Bool} {held:Bool}
theorem rd_ask5 {P:Program} {t tp ti tn:TypeId} {f0 f1 f2 f3 f4:Field} (ht:P.underlying t=some (.struct #[f0,f1,f2,f3,f4])) (e0:f0.type=tp∧f0.offset=0) (e1:f1.type=ti∧f1.offset=1) (e2:f2.type=ti∧f2.offset=3) (e3:f3.type=ti∧f3.offset=5) (e4:f4.type=tn∧f4.offset=7)
  (cp:P.cellsOf tp=1) (ci:P.cellsOf ti=2) (cn':P.cellsOf tn=1) (hn:P.underlying tn=some (.int .i64))
  (ep:∀ (n:Nat) (cs:List Value) (x:DataW H×List MemPlace),DataW.trod enc P w base spare held n tp cs=some x→∃ r:Row,limR r∧RdC (fun b=>b<w.heap.size) w (V r) cs)
  (ei:∀ (n:Nat) (cs:List Value) (x:DataW H×List MemPlace),cs.length=2→DataW.trod enc P w base spare held n ti cs=some x→∃ y:Bool×List Nat,Lim y.2∧RdC (fun b=>b<w.heap.size) w (J y) cs)
  {fuel:Nat} {cs:List Value} {x:DataW H×List MemPlace} (hl:cs.length=8) (h:DataW.trod enc P w base spare held fuel t cs=some x) :
  ∃ (p:Row) (m u y:Bool×List Nat) (n:Int),(limR p∧Lim m.2∧Lim u.2∧Lim y.2∧inK .i64 n)∧RdC (fun b=>b<w.heap.size) w (iJ p m u y n) cs:=by
 obtain ⟨xs,n,_,rfl,_,hlen,hf⟩:=DataW.trod_struct ht h
 match xs,hlen with
 | [y0,y1,y2,y3,y4],_ =>
  have h0:=hf 0 f0 rfl
  have h1:=hf 1 f1 rfl
  have h2:=hf 2 f2 rfl
  have h3:=hf 3 f3 rfl
  have h4:=hf 4 f4 rfl
  rw [e0.1,e0.2,cp] at h0
  rw [e1.1,e1.2,ci] at h1
  rw [e2.1,e2.2,ci] at h2
  rw [e3.1,e3.2,ci] at h3
  rw [e4.1,e4.2,cn'] at h4
  match cs,hl with
  | [c0,c1,c2,c3,c4,c5,c6,c7],_ =>
   obtain ⟨p,a1,a2⟩:=ep _ _ _ h0
   obtain ⟨m,b1,b2⟩:=ei _ _ _ rfl h1
   obtain ⟨u,d1,d2⟩:=ei _ _ _ rfl h2
   obtain ⟨y,g1,g2⟩:=ei _ _ _ rfl h3
   obtain ⟨k,k1,_,k2⟩:=DataW.trod_int hn h4
   obtain rfl:c7=.int .i64 k:=by simpa using k1
   refine ⟨p,m,u,y,k,⟨a1,b1,d1,g1,?_⟩,?_⟩
   ·have:=i64_of k2
    simp only [inK]; omega
   ·exact ⟨[c0],_,rfl,a2,[c1,c2],_,rfl,b2,[c3,c4],_,rfl,d2,[c5,c6],[.int .i64 k],rfl,g2,⟨rfl,rfl⟩⟩
end
theorem rd_askV {P:Program} {t:TypeId} {fs:Array Field} {H:Type} {enc:TypeId×Value→H} {w:World} {r:Reach} {base base':Nat} {spare:Nat→Bool} {held:Bool} {v:Value} {d:DataW H} {p:List MemPlace} (ht:P.underlying t=some (.struct fs)) (hc:P.cellsOf t=8)
  (el:∀ (n:Nat) (cs:List Value) (x:DataW H×List MemPlace),cs.length=8→DataW.trod enc P w base spare held n t cs=some x→∃ (p:Row) (m u y:Bool×List Nat) (n:Int),(limR p∧Lim m.2∧Lim u.2∧Lim y.2∧inK .i64 n)∧RdC (fun b=>b<w.heap.size) w (iJ p m u y n) cs)
  (hv:Value.okWide P w r base' t v) (h:DataW.Trod enc P w base spare held t v d p):∃ (p:Row) (m u y:Bool×List Nat) (n:Int),(limR p∧Lim m.2∧Lim u.2∧Lim y.2∧inK .i64 n)∧Rd (fun b=>b<w.heap.size) w v (iJ p m u y n):=by
 obtain ⟨cs,rfl,hsz⟩:=okWide_struct ht hv
 obtain ⟨fuel,hf⟩:=h
 have hcs:(Value.agg cs).cells.toList=cs.toList:=by simp [Value.cells]
 rw [hcs] at hf
 obtain ⟨p,m,u,y,n,h1,h2⟩:=el _ _ _ (by simpa using hsz.trans hc) hf
 exact ⟨p,m,u,y,n,h1,cs.toList,h2,by unfold iJ qV; simp⟩
set_option maxRecDepth 100000 in
theorem rd_ask {H:Type} {enc:TypeId×Value→H} {w:World} {r:Reach} {base base':Nat} {spare:Nat→Bool} {held:Bool} {v:Value} {d:DataW H} {p:List MemPlace} (hv:Value.okWide Tryz.prog w r base' 28 v)
  (h:DataW.Trod enc Tryz.prog w base spare held 28 v d p):∃ (p:Row) (m u y:Bool×List Nat) (n:Int),(limR p∧Lim m.2∧Lim u.2∧Lim y.2∧inK .i64 n)∧Rd (fun b=>b<w.heap.size) w v (iJ p m u y n) :=
 have hc:Tryz.prog.cellsOf 28=8:=by kernel_rfl
 have el:∀ (n:Nat) (cs:List Value) (x:DataW H×List MemPlace),cs.length=8→DataW.trod enc Tryz.prog w base spare held n 28 cs=some x→∃ (p:Row) (m u y:Bool×List Nat) (n:Int),(limR p∧Lim m.2∧Lim u.2∧Lim y.2∧inK .i64 n)∧RdC (fun b=>b<w.heap.size) w (iJ p m u y n) cs:=fun _ _ _ hl h =>
  rd_ask5 (tp:=23) (ti:=26) (tn:=3) Tryz.underlying28 ⟨rfl,rfl⟩ ⟨rfl,rfl⟩ ⟨rfl,rfl⟩ ⟨rfl,rfl⟩ ⟨rfl,rfl⟩ qK qK qK Tryz.underlying3 (fun _ _ _ h=>rd_poly h) (fun _ _ _ hl h=>rd_int hl h) hl h
 rd_askV (P:=Tryz.prog) (t:=28) (v:=v) (r:=r) (base:=base) (base':=base') Tryz.underlying28 hc el hv h
theorem i8_of {n:Int} (h:(Lit.int .i8 n).wf=true) : -128≤n∧n<128:=by
 simp [Lit.wf,IntKind.min,IntKind.max,IntKind.signed,IntKind.bits] at h
 omega
theorem fit7 {l:List Int} (h:∀ x,x∈l→x.natAbs<18446744073709551616):Fit 1 (l.map cn):=Fit_cn fun x hx=>by
 have:=h x hx
 unfold sz; simpa using this
theorem sm7 (x:Int) (h:x.natAbs<18446744073709551616):sz x 1:=by unfold sz; simpa using h
theorem shapeT (v w:Value) (a b:List (Nat×Nat)) (h:a=b):Meets Tryz.prog 19 [v,w] [(v,ShD a),(w,ShD b)] (fun r os fs=>os=[]∧fs=[]∧r=.bool true):=by
 have:=uT v w a b
 rw [decide_eq_true h] at this
 exact this
theorem rowsT (v w:Value) (a b:List (List Int)) (h:a=b):Meets Tryz.prog 20 [v,w] [(v,wd a),(w,wd b)] (fun r os fs=>os=[]∧fs=[]∧r=.bool true):=by
 subst h
 have:=wD v w (a.map (·.map cn)) (a.map (·.map cn))
 rw [decide_eq_true rfl] at this
 exact this
theorem sh7_shape:Meets Tryz.prog 15 [.int .i64 2,.int .i64 1] [] (fun r os fs=>os=[]∧∃ q,r=.tuple #[q,.int .i64 0]∧fs=[(q,ShD [(0,0),(1,0),(2,0),(0,1)])]):=by
 have h:=mN 2 1 (by simp only [inK]; omega) (by simp only [inK]; omega)
 rw [show shpR 2 1=([(0,0),(1,0),(2,0),(0,1)],0) by decide] at h
 exact h
theorem sh7_mat (v w u z:Value):Meets Tryz.prog 17 [v,w,u,z,.int .i64 1] [(v,vd [3,5]),(w,zd 100),(u,zd 4),(z,zd 2)] (fun r os fs=>os=[]∧∃ q,r=.tuple #[q,.int .i64 0]∧fs=[(q,wd [[100,0,0],[0,400,0],[3,20, -2]])]):=by
 have h:=lO v w u z (([3,5]:List Int).map cn) (cn 100) (cn 4) (cn 2) 1 1 1 (fit7 qE) qE qE qE (aZ _) (sm7 100 qE).len (aZ _) (sm7 4 qE).len (aZ _) (sm7 2 qE).len qE qE (by simp only [inK]; omega)
 rw [fC,eM,eM,eM,show matR [3,5] 100 4 2 1=([[100,0,0],[0,400,0],[3,20, -2]],0) by decide +kernel] at h
 exact h
theorem sh7_all (v w u z:Value):Meets Tryz.prog 24 [v,w,u,z] [(v,vd [3,5]),(w,zd 100),(u,zd 25),(z,zd 2)] (fun r os fs=>os=[]∧∃ q,r=.tuple #[q,.int .i64 0]∧fs=[(q,vd [-21, -1,19])]):=by
 have h:=slzAll_meets v w u z (([3,5]:List Int).map cn) (cn 100) (cn 25) (cn 2) 1 1 (fit7 qE) qE qE (aZ _) (sm7 100 qE).len (aZ _) (sm7 25 qE).len (aZ _) (sm7 2 qE).len qE
 rw [fC,eM,eM,eM,show allR [3,5] 100 25 2=([-21, -1,19],0) by decide +kernel] at h
 exact h
theorem sh7_with (v w u z:Value):Meets Tryz.prog 13 [v,w,u,z] [(v,vd [3,5]),(w,zd 100),(u,zd 2),(z,zd 19)] (fun r os fs=>os=[]∧fs=[]∧r=.tuple #[.bool true,.int .i64 0]):=by
 have h:=oE v w u z (([3,5]:List Int).map cn) (cn 100) (cn 2) (cn 19) 1 1 (fit7 qE) qE qE (aZ _) (sm7 100 qE).len (aZ _) (sm7 2 qE).len (aZ _) (sm7 19 qE).len qE
 rw [fC,eM,eM,eM,show kP [3,5] 100 2 19=(true,0) by decide +kernel] at h
 exact h
theorem sh7_lil:Lil [222,389] 1000 5 1 1 1:=⟨by decide,by decide,by decide,by decide,by decide,by decide,fun x hx=>sm7 x (by revert x; decide),by decide,sm7 _ qE,sm7 _ qE,sm7 _ qE⟩
theorem sh7_R:lR [222,389] 1000 5 1 1 1=[[4, -10,18],[-82,205,131],[882,295, -31]]:=by
 have h1:=sh7_lil.red
 have h2:=lred_cn (M:=lA [222,389] 1000 5 1 1 1) (f:=40) (R1:=[[4, -10,18],[-82,205,131],[882,295, -31]]) (R2:=[[4,7, -18],[29,51, -131],[-6, -12,31]]) (by decide +kernel) (by decide +kernel) (by decide +kernel)
 rw [h1] at h2
 exact congrArg (·.1) h2
theorem sh7_F:lF [222,389] 1000 5 1 1 1=([-2000,1000],true):=by
 unfold lF
 rw [sh7_R]
 decide +kernel
theorem rise_one {a:Int}:∀ {l:List Int},Rise l→(∀ t,t∈l↔t=a)→l=[a]
 | [],_,h=>absurd ((h a).2 rfl) qP
 | [b],_,h=>by rw [(h b).1 qP]
 | b::c::l,hr,h=>by
  have h1:=(h b).1 qP
  have h2:=(h c).1 qP
  have h3:=hr.1 c qP
  omega
theorem sh7_L {L:List Int} {dec:Bool} (h:SolveOk [222,389] 1000 5 1 1 1 L dec):dec=true∧L=[2]:=by
 have h0:=h.ok
 rw [sh7_F] at h0
 obtain ⟨h1,O,e,h2,rfl⟩:=h0 rfl
 obtain ⟨h3,h4,_⟩:=in_all h2 qE qE
 refine ⟨h1,rise_one (h3.filter _) fun t=>?_⟩
 rw [List.mem_filter,h4]
 constructor
 ·rintro ⟨⟨g1,g2,g3⟩,_⟩
  have:t = -5∨t = -4∨t = -3∨t = -2∨t = -1∨t=0∨t=1∨t=2∨t=3∨t=4∨t=5:=by omega
  rcases this with rfl | rfl | rfl | rfl | rfl | rfl | rfl | rfl | rfl | rfl | rfl <;> first | rfl | exact absurd g3 qE
 ·rintro rfl
  exact ⟨⟨by decide,by decide,by decide⟩,by decide +kernel⟩
theorem sh7_solve (v w u z:Value):Meets Tryz.prog 28 [v,w,u,z,.int .i64 1] [(v,vd [222,389]),(w,zd 1000),(u,zd 5),(z,zd 1)] (fun r os fs=>os=[]∧∃ q,r=.tuple #[q,.bool true,.int .i64 0]∧fs=[(q,vd [2])]):=by
 have h:=slzSolve_ok v w u z (([222,389]:List Int).map cn) (cn 1000) (cn 5) (cn 1) 1 1 (fit7 qE) (aZ _) (sm7 1000 qE).len (aZ _) (sm7 5 qE).len (aZ _) (sm7 1 qE).len (by rw [fC,eM,eM,eM]; exact sh7_lil)
 rw [fC,eM,eM,eM] at h
 refine h.mono ?_
 rintro r os fs ⟨h1,q,L,dec,h2,h3,h4⟩
 obtain ⟨rfl,rfl⟩:=sh7_L h3
 exact ⟨h1,q,h2,h4⟩
theorem shown7_meets:Meets Tryz.prog 10 [] [] (fun r os fs=>os=[]∧fs=[]∧r=.bool true):=by
 refine mV Tryz.func10 ?_
 refine w8 [3,5] rfl rfl qE fun s1=>?_
 refine cG (lS s1 [3,5] qE qE) fun p=>?_
 refine cF (sh7_shape) ?_
 rintro _ _ _ ⟨rfl,sh,rfl,rfl⟩
 refine cG (fK 100 qE qE) fun n1=>?_
 refine cG (fK 4 qE qE) fun n2=>?_
 refine cG (fK 2 qE qE) fun n3=>?_
 refine cF (sh7_mat p n1 n2 n3) ?_
 rintro _ _ _ ⟨rfl,mt,rfl,rfl⟩
 refine cG (fK 100 qE qE) fun n4=>?_
 refine cG (fK 25 qE qE) fun n5=>?_
 refine cG (fK 2 qE qE) fun n6=>?_
 refine cF (sh7_all p n4 n5 n6) ?_
 rintro _ _ _ ⟨rfl,al,rfl,rfl⟩
 refine cG (fK 100 qE qE) fun n7=>?_
 refine cG (fK 2 qE qE) fun n8=>?_
 refine cG (fK 19 qE qE) fun n9=>?_
 refine cH (sh7_with p n7 n8 n9) ?_
 refine w8 [222,389] rfl rfl qE fun s2=>?_
 refine cG (lS s2 [222,389] qE qE) fun p2=>?_
 refine cG (fK 1000 qE qE) fun n10=>?_
 refine cG (fK 5 qE qE) fun n11=>?_
 refine cG (fK 1 qE qE) fun n12=>?_
 refine cF (sh7_solve p2 n10 n11 n12) ?_
 rintro _ _ _ ⟨rfl,so,rfl,rfl⟩
 refine mA ?_
 refine mA ?_
 refine mA ?_
 refine mA ?_
 refine cX (size:=2) (n:=4) [spot 0 0,spot 1 0,spot 2 0,spot 0 1] [spE (0,0),spE (1,0),spE (2,0),spE (0,1)] rfl rfl qE qE ⟨Reads.spot _ _,rfl,Reads.spot _ _,rfl,Reads.spot _ _,rfl,Reads.spot _ _,rfl,trivial⟩ fun l1=>?_
 refine CallK.pre (a9 (v:=l1) (d:=ShD [(0,0),(1,0),(2,0),(0,1)]) (Knw.cast (Knw.sl_cong (e':=fun i=>spE (([(0,0),(1,0),(2,0),(0,1)]:List (Nat×Nat)).getD i (0,0))) (bA (List.Mem.head _)) fun i hi=>?_) rfl) (aA fun _ hF=>.tail _ hF)) ?_
 ·match i,hi with
  | 0,_=>rfl
  | 1,_=>rfl
  | 2,_=>rfl
  | 3,_=>rfl
 refine cH (shapeT sh l1 _ _ rfl) ?_
 refine w8 [100,0,0] rfl rfl qE fun s3=>?_
 refine cG (lS s3 [100,0,0] qE qE) fun r1=>?_
 refine w8 [0,400,0] rfl rfl qE fun s4=>?_
 refine cG (lS s4 [0,400,0] qE qE) fun r2=>?_
 refine w8 [3,20, -2] rfl rfl qE fun s5=>?_
 refine cG (lS s5 [3,20, -2] qE qE) fun r3=>?_
 refine cX (size:=1) (n:=3) [r1,r2,r3] [vd [100,0,0],vd [0,400,0],vd [3,20, -2]] rfl rfl qE qE ⟨aB qM,rfl,aB qM,rfl,aB qM,rfl,trivial⟩ fun l2=>?_
 refine CallK.pre (a9 (v:=l2) (d:=wd [[100,0,0],[0,400,0],[3,20, -2]]) (Knw.cast (Knw.sl_cong (e':=fun i=>V (([[100,0,0],[0,400,0],[3,20, -2]]:List (List Int)).map (·.map cn) |>.getD i [])) (bA (List.Mem.head _)) fun i hi=>?_) rfl) (aA fun _ hF=>.tail _ hF)) ?_
 ·match i,hi with
  | 0,_=>rfl
  | 1,_=>rfl
  | 2,_=>rfl
 refine cH (rowsT mt l2 _ _ rfl) ?_
 refine w8 [-21, -1,19] rfl rfl qE fun s6=>?_
 refine cG (lS s6 [-21, -1,19] qE qE) fun r4=>?_
 refine cH (exallT al r4 _ _ rfl) ?_
 refine w8 [2] rfl rfl qE fun s7=>?_
 refine cG (lS s7 [2] qE qE) fun r5=>?_
 refine cH (exallT so r5 _ _ rfl) ?_
 refine cL rfl rfl ?_
 refine cL rfl rfl ?_
 refine cL rfl rfl ?_
 refine cL rfl rfl ?_
 refine cL rfl rfl ?_
 exact fin ⟨rfl,rfl,rfl⟩ (aH _ _)
theorem eq_bool {P:Program} {t:TypeId} [ht:TBool P t] {x y:Operand} {a b:Bool} {os:List Own} {fs:List bK} {K:cE} (h:a=b) (k:K (.bool true) os fs):BinK P .eql t x y (.bool a) (.bool b) os fs K :=
 yE (fun _=>k) (fun g=>absurd h g)
theorem store_seal {P:Program} {ty:TypeId} {x v:Value} {d:Dat} {size:Nat} {e:Nat→Dat} {os:List Own} {fs:List bK} {K:cE} (hb:l4 v)
  (hd:d.cells=size) (ht:(P.info? ty).map (·.size)=some size) (hx:Reads (bL v size 1 e::os) fs x d)
  (k':K undef os ((v,.ptr d)::fs)):StoreK P ty v x (bL v size 1 e::os) fs K :=
 ⟨fun G w hw=>((aF (K:=fun u os' fs'=>∃ os'' fs'',Seals os' fs' os'' fs''∧K u os'' fs'') 0 rfl hb hd ht hx ⟨_,_,Seals.box (os:=bL v size 1 (upd e 0 d)::os) 0 rfl hb rfl,k'⟩).out G w hw).mono fun _ _ ⟨_,_,⟨o2,f2,hs,hk⟩,hh⟩=>⟨o2,f2,hk,hs _ _ hh⟩⟩
theorem tells7_meets (v w:Value) (c:Int) (p:Row) (m t y:Bool×List Nat) (n:Int) (x:Bool×List Nat) (hp:limR p) (hm:Lim m.2) (ht:Lim t.2) (hy:Lim y.2) (hn:inK .i64 n) (hx:Lim x.2) (hc : -128≤c∧c<128) :
  Meets Tryz.prog 3 [v,w,.int .i8 c] [(v,iJ p m t y n),(w,J x)] (fun r os fs=>os=[]∧fs=[]∧r=.bool true):=by
 refine mV Tryz.func3 ?_
 refine jT (aB (v:=v) (d:=iJ p m t y n) qM) fun bq=>?_
 refine jT (aB (v:=w) (d:=J x) qM) fun bx=>?_
 refine cH (shown7_meets) ?_
 refine aU (p:=bq) (d:=iJ p m t y n) qM (rV _ _ _ _ _) fun yf=>?_
 refine cF (fits7_meets yf p m t y n) ?_
 rintro _ _ _ ⟨rfl,rfl,b,rfl,hb⟩
 cases b
 ·
  exact fin ⟨rfl,rfl,rfl⟩ (aH _ _)
 ·
  obtain ⟨h4,hm2,ht2,hy2⟩:=hb rfl
  have hf:=h4.fit hp
  have lp:=h4.1
  refine bQ (p:=bx) (off:=1) (d:=J x) (d':=U x.2) qM (aS (aJ _)) fun a2=>?_
  refine aU (p:=a2) (d:=U x.2) qM (cV _) fun u1=>?_
  refine aP (v:=u1) (n:=x.2.length) qM fun _=>?_
  refine aE _ rfl (fun hx2=>?_) (fun hx2=>?_)
  ·
   exact fin ⟨rfl,rfl,rfl⟩ (aH _ _)
  refine bQ (p:=bq) (d:=iJ p m t y n) qM (pt_n p m t y n) fun a1=>?_
  refine bJ (p:=a1) qM ?_
  refine aE _ rfl (fun hn3=>?_) (fun hn3=>?_)
  ·
   exact fin ⟨rfl,rfl,rfl⟩ (aH _ _)
  have hci:inK .i64 c:=by simp only [inK]; omega
  have e1:=fun z1 z2 z3 z4=>oE z1 z2 z3 z4 p m y x 2 2 hf qN qE hm hm2 hy hy2 hx qN qE
  have e2:=fun z1 z2 z3 z4=>wG z1 z2 z3 z4 p m y x 2 2 hf qN qE hm hm2 hy hy2 hx qN qE
  have e3:=mN c n hci hn
  have e4:=tZ c n hci hn
  have e5:=fun z1 z2 z3 z4=>lO z1 z2 z3 z4 p m t y n 2 2 hf qN qE qE hm hm2 ht ht2 hy hy2 qE qE hn
  have e6:=fun z1 z2 z3 z4=>wH z1 z2 z3 z4 p m t y n 2 2 hf qN qE qE hm hm2 ht ht2 hy hy2 qE qE hn qN
  generalize kP (vv p) (jv m) (jv y) (jv x)=W1 at *
  generalize shpR c n=S1 at *
  generalize matR (vv p) (jv m) (jv t) (jv y) n=M1 at *
  refine aU (p:=bq) (d:=iJ p m t y n) qM (rV _ _ _ _ _) fun ya=>?_
  refine cG (own7_meets ya p m t y n h4 qN qN qN) fun yo=>?_
  refine aK (d:=askZ) fun bo ho=>?_
  refine store_seal (d:=iJ p m t y n) ho rfl qK (aB (v:=yo) qM) ?_
  refine bQ (p:=bo) (d:=iJ p m t y n) qM (pt_p p m t y n) fun a1=>?_
  refine aU (p:=a1) (d:=V p) qM (jN _) fun y1=>?_
  refine bQ (p:=bo) (d:=iJ p m t y n) qM (pt_m p m t y n) fun a1=>?_
  refine aU (p:=a1) (d:=J m) qM (bB _) fun y2=>?_
  refine bQ (p:=bo) (d:=iJ p m t y n) qM (pt_y p m t y n) fun a1=>?_
  refine aU (p:=a1) (d:=J y) qM (bB _) fun y3=>?_
  refine aU (p:=bx) (d:=J x) qM (bB _) fun y4=>?_
  refine cH (e1 y1 y2 y3 y4) ?_
  refine bQ (p:=bq) (d:=iJ p m t y n) qM (pt_p p m t y n) fun a1=>?_
  refine aU (p:=a1) (d:=V p) qM (jN _) fun y5=>?_
  refine bQ (p:=bq) (d:=iJ p m t y n) qM (pt_m p m t y n) fun a1=>?_
  refine aU (p:=a1) (d:=J m) qM (bB _) fun y6=>?_
  refine bQ (p:=bq) (d:=iJ p m t y n) qM (pt_y p m t y n) fun a1=>?_
  refine aU (p:=a1) (d:=J y) qM (bB _) fun y7=>?_
  refine aU (p:=bx) (d:=J x) qM (bB _) fun y8=>?_
  refine cH (e2 y5 y6 y7 y8) ?_
  refine dW ⟨_,Tryz.underlying29⟩ Tryz.underlying3 c (cK hci) ?_
  refine bQ (p:=bq) (d:=iJ p m t y n) qM (pt_n p m t y n) fun a1=>?_
  refine bJ (p:=a1) qM ?_
  refine cF (e3) ?_
  rintro _ _ _ ⟨rfl,s1,rfl,rfl⟩
  refine dW ⟨_,Tryz.underlying29⟩ Tryz.underlying3 c (cK hci) ?_
  refine bQ (p:=bq) (d:=iJ p m t y n) qM (pt_n p m t y n) fun a1=>?_
  refine bJ (p:=a1) qM ?_
  refine cF (e4) ?_
  rintro _ _ _ ⟨rfl,s2,rfl,rfl⟩
  refine bQ (p:=bo) (d:=iJ p m t y n) qM (pt_p p m t y n) fun a1=>?_
  refine aU (p:=a1) (d:=V p) qM (jN _) fun y9=>?_
  refine bQ (p:=bo) (d:=iJ p m t y n) qM (pt_m p m t y n) fun a1=>?_
  refine aU (p:=a1) (d:=J m) qM (bB _) fun y10=>?_
  refine bQ (p:=bo) (d:=iJ p m t y n) qM (pt_t p m t y n) fun a1=>?_
  refine aU (p:=a1) (d:=J t) qM (bB _) fun y11=>?_
  refine bQ (p:=bo) (d:=iJ p m t y n) qM (pt_y p m t y n) fun a1=>?_
  refine aU (p:=a1) (d:=J y) qM (bB _) fun y12=>?_
  refine bQ (p:=bo) (d:=iJ p m t y n) qM (pt_n p m t y n) fun a1=>?_
  refine bJ (p:=a1) qM ?_
  refine cF (e5 y9 y10 y11 y12) ?_
  rintro _ _ _ ⟨rfl,m1,rfl,rfl⟩
  refine bQ (p:=bq) (d:=iJ p m t y n) qM (pt_p p m t y n) fun a1=>?_
  refine aU (p:=a1) (d:=V p) qM (jN _) fun y13=>?_
  refine bQ (p:=bq) (d:=iJ p m t y n) qM (pt_m p m t y n) fun a1=>?_
  refine aU (p:=a1) (d:=J m) qM (bB _) fun y14=>?_
  refine bQ (p:=bq) (d:=iJ p m t y n) qM (pt_t p m t y n) fun a1=>?_
  refine aU (p:=a1) (d:=J t) qM (bB _) fun y15=>?_
  refine bQ (p:=bq) (d:=iJ p m t y n) qM (pt_y p m t y n) fun a1=>?_
  refine aU (p:=a1) (d:=J y) qM (bB _) fun y16=>?_
  refine bQ (p:=bq) (d:=iJ p m t y n) qM (pt_n p m t y n) fun a1=>?_
  refine bJ (p:=a1) qM ?_
  refine cF (e6 y13 y14 y15 y16) ?_
  rintro _ _ _ ⟨rfl,m2,rfl,rfl⟩
  refine eq_bool rfl ?_
  refine cL rfl rfl ?_
  refine cH (shapeT s1 s2 _ _ rfl) ?_
  refine cL rfl rfl ?_
  refine cH (rowsT m1 m2 _ _ rfl) ?_
  refine cL rfl rfl ?_
  refine aU (p:=bq) (d:=iJ p m t y n) qM (rV _ _ _ _ _) fun y17=>?_
  refine aU (p:=bo) (d:=iJ p m t y n) qM (rV _ _ _ _ _) fun y18=>?_
  refine cH (kept7_meets y17 y18 p m t y n) ?_
  exact fin ⟨rfl,rfl,rfl⟩ (aH _ _)
open Go.ChangeShapes Go.WideShapes Go.ChangeAt Go.RowKit
open Go.Joins (open_agg2)
set_option maxRecDepth 100000 in
theorem vX (os:Os) (started:os.Started) (H:Type) (enc:TypeId×Value→H) :
  ReturnsInHanded {} Tryz.checked os 3 .any (Rows.slzTellsSpec.pre6 enc Tryz.prog Tryz.f3 Rows.slzTellsRow.domain false) (Rows.slzTellsSpec.post enc Tryz.prog Tryz.f3 false true false false):=by
 refine returnsInHanded_of_change (C:=Tryz.checked) own0 started qK Tryz.func3
  (ChangeSpec.witness6 (enc:=enc) (C:=Tryz.checked) false ⟨#[], #[.agg #[.slice none 0 0,.bool false,.slice none 0 0,.bool false,.slice none 0 0,.bool false,.slice none 0 0,.int .i64 0],.agg #[.bool false,.slice none 0 0],.int .i8 0],[]⟩ 8 qK qK qK qK) ?_
 intro Wd base args ds gs before hval0 hW hcnd _
 have hval:∀ (j:Nat) t v,Tryz.f3.params[j]? = some t→args[j]? = some v→Value.okWide Tryz.prog Wd .any base t v:=hval0
 have hW':=hW
 obtain ⟨p,q,hA0,hV,rfl,hfz,hnd⟩:=hW
 have hA:DataW.TrodAll enc Tryz.prog Wd 0 (fun _=>true) true Tryz.f3.params.toList args.toList ds p:=hA0
 rw [Tryz.params3] at hA hval
 obtain ⟨v0,vs0,d0,ds0,p0,q0,hargs,rfl,rfl,h0,r0⟩:=trodAll_cons hA
 obtain ⟨v1,vs1,d1,ds1,p1,q1,rfl,rfl,rfl,h1,r1⟩:=trodAll_cons r0
 obtain ⟨v2,vs2,d2,ds2,p2,q2,rfl,rfl,rfl,h2,r2⟩:=trodAll_cons r1
 obtain ⟨rfl,rfl,rfl⟩:=trodAll_nil r2
 obtain rfl:args = #[v0,v1,v2]:=by cases args; simp_all
 obtain ⟨rfl,rfl⟩:=trodVars_none hV
 have k0:=h0
 have lt0:∀ x∈p0,x.block<Wd.heap.size:=by obtain ⟨m,hm⟩:=k0; exact DataW.trod_lt m _ _ _ hm
 obtain ⟨aP0,aM0,aT0,aY0,aN0,⟨lP0,lM0,lT0,lY0,lN0⟩,rd0⟩:=rd_ask (hval 0 28 v0 rfl rfl) h0
 have k1:=h1
 have lt1:∀ x∈p1,x.block<Wd.heap.size:=by obtain ⟨m,hm⟩:=k1; exact DataW.trod_lt m _ _ _ hm
 obtain ⟨m1,lm1,rd1⟩:∃ m:Bool×List Nat,Lim m.2∧Rd (fun b=>b<Wd.heap.size) Wd v1 (J m):=rd_arg (hval 1 26 v1 rfl rfl) h1
 obtain ⟨x2,rfl,rfl,rfl,w2⟩:=open_int Tryz.underlying29 (hval 2 29 v2 rfl rfl) h2
 clear hA0 hval0
 refine (calls_of_meets (w:=Wd) (tells7_meets v0 v1 x2 aP0 aM0 aT0 aY0 aN0 m1 lP0 lM0 lT0 lY0 lN0 lm1 (i8_of w2)) ?_).mono fun e W2 ⟨he,bel⟩=>?_
 ·intro F hF
  simp only [List.mem_cons,List.not_mem_nil,or_false] at hF
  rcases hF with rfl | rfl
  ·exact rd0
  ·exact rd1
 subst he
 exact ⟨_,rfl,_,_,_,[],_,[],hW',trodAll_mk1 (shut_bool Tryz.underlying4 _),(trodAll_cons_mk (Below.trod laid0 qK (of_decide_eq_true qK) k0 bel lt0) (trodAll_cons_mk (Below.trod laid0 qK (of_decide_eq_true qK) k1 bel lt1) (trodAll_cons_mk (shut_int Tryz.underlying29 w2) trodAll_mk0))),rfl,bel.frame _,fun h=>by cases h⟩
theorem slzTells_holds:Rows.SlzTellsSaid :=
 OpenClaim.holds_of_wide 3 Tryz.f3 rfl rfl rfl rfl rfl rfl rfl ⟨rfl,rfl,rfl,rfl,rfl⟩ rfl rfl rfl rfl rfl qK Tryz.func3 qK
  (of_decide_eq_true qK) (by unfold Func.isWrapper; first | (rw [if_pos (by decide +kernel)]; kernel_rfl) | (rw [if_neg (by decide +kernel)]; exact ⟨rfl,rfl⟩))
  (fun os started H enc _=>vX os started H enc)
#print axioms slzTells_holds
end Go.Proofs.YtjebljkoiaojaaaGreat
