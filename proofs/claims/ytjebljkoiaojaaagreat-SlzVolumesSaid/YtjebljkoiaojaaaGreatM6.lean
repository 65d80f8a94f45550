/- The law SlzVolumes is true of each input, and changes none. No condition. -/
import Derived.Test.YtjebljkoiaojaaaGreatM5
import Derived.Test.YtjebljkoiaojaaaGreatRows
import Derived.OpenShut
import Derived.Below
import Derived.Lib.SmallJoins
set_option linter.unusedVariables false
set_option linter.unusedSimpArgs false
namespace Go.Proofs.YtjebljkoiaojaaaGreat
open Go.RowKit
theorem fit7 {l:List Int} (h:∀ x,x∈l→x.natAbs<18446744073709551616):Fit 1 (l.map cn):=Fit_cn fun x hx=>by
 have:=h x hx
 unfold sz; simpa using this
theorem sm7 (x:Int) (h:x.natAbs<18446744073709551616):sz x 1:=by unfold sz; simpa using h
theorem shapeT (v w:Value) (a b:List (Nat×Nat)) (h:a=b):Meets Tryz.prog 19 [v,w] [(v,ShD a),(w,ShD b)] (fun r os fs=>os=[]∧fs=[]∧r=.bool true):=by
 have:=tT v w a b
 rw [decide_eq_true h] at this
 exact this
theorem rowsT (v w:Value) (a b:List (List Int)) (h:a=b):Meets Tryz.prog 20 [v,w] [(v,wd a),(w,wd b)] (fun r os fs=>os=[]∧fs=[]∧r=.bool true):=by
 subst h
 have:=uX v w (a.map (·.map cn)) (a.map (·.map cn))
 rw [decide_eq_true rfl] at this
 exact this
theorem sh7_shape:Meets Tryz.prog 15 [.int .i64 2,.int .i64 1] [] (fun r os fs=>os=[]∧∃ q,r=.tuple #[q,.int .i64 0]∧fs=[(q,ShD [(0,0),(1,0),(2,0),(0,1)])]):=by
 have h:=lY 2 1 (by simp only [inK]; omega) (by simp only [inK]; omega)
 rw [show shpR 2 1=([(0,0),(1,0),(2,0),(0,1)],0) by decide] at h
 exact h
theorem sh7_mat (v w u z:Value):Meets Tryz.prog 17 [v,w,u,z,.int .i64 1] [(v,vd [3,5]),(w,zd 100),(u,zd 4),(z,zd 2)] (fun r os fs=>os=[]∧∃ q,r=.tuple #[q,.int .i64 0]∧fs=[(q,wd [[100,0,0],[0,400,0],[3,20, -2]])]):=by
 have h:=kP v w u z (([3,5]:List Int).map cn) (cn 100) (cn 4) (cn 2) 1 1 1 (fit7 qE) qE qE qE (a0 _) (sm7 100 qE).len (a0 _) (sm7 4 qE).len (a0 _) (sm7 2 qE).len qE qE (by simp only [inK]; omega)
 rw [fR,eR,eR,eR,show matR [3,5] 100 4 2 1=([[100,0,0],[0,400,0],[3,20, -2]],0) by decide +kernel] at h
 exact h
theorem sh7_all (v w u z:Value):Meets Tryz.prog 24 [v,w,u,z] [(v,vd [3,5]),(w,zd 100),(u,zd 25),(z,zd 2)] (fun r os fs=>os=[]∧∃ q,r=.tuple #[q,.int .i64 0]∧fs=[(q,vd [-21, -1,19])]):=by
 have h:=slzAll_meets v w u z (([3,5]:List Int).map cn) (cn 100) (cn 25) (cn 2) 1 1 (fit7 qE) qE qE (a0 _) (sm7 100 qE).len (a0 _) (sm7 25 qE).len (a0 _) (sm7 2 qE).len qE
 rw [fR,eR,eR,eR,show allR [3,5] 100 25 2=([-21, -1,19],0) by decide +kernel] at h
 exact h
theorem sh7_with (v w u z:Value):Meets Tryz.prog 13 [v,w,u,z] [(v,vd [3,5]),(w,zd 100),(u,zd 2),(z,zd 19)] (fun r os fs=>os=[]∧fs=[]∧r=.tuple #[.bool true,.int .i64 0]):=by
 have h:=uQ v w u z (([3,5]:List Int).map cn) (cn 100) (cn 2) (cn 19) 1 1 (fit7 qE) qE qE (a0 _) (sm7 100 qE).len (a0 _) (sm7 2 qE).len (a0 _) (sm7 19 qE).len qE
 rw [fR,eR,eR,eR,show rO [3,5] 100 2 19=(true,0) by decide +kernel] at h
 exact h
theorem sh7_lil:Lil [222,389] 1000 5 1 1 1:=⟨by decide,by decide,by decide,by decide,by decide,by decide,fun x hx=>sm7 x (by revert x; decide),by decide,sm7 _ qE,sm7 _ qE,sm7 _ qE⟩
theorem sh7_R:lR [222,389] 1000 5 1 1 1=[[4, -10,18],[-82,205,131],[882,295, -31]]:=by
 have h1:=sh7_lil.red
 have h2:=lred_cn (M:=lA [222,389] 1000 5 1 1 1) (f:=40) (R1:=[[4, -10,18],[-82,205,131],[882,295, -31]]) (R2:=[[4,7, -18],[29,51, -131],[-6, -12,31]]) (by decide +kernel) (by decide +kernel) (by decide +kernel)
 rw [h1] at h2
 exact congrArg (·.1) h2
theorem sh7_F:lF [222,389] 1000 5 1 1 1=([-2000,1000],true):=by
 unfold lF
 rw [sh7_R]
 decide +kernel
theorem rise_one {a:Int}:∀ {l:List Int},Rise l→(∀ t,t∈l↔t=a)→l=[a]
 | [],_,h=>absurd ((h a).2 rfl) qP
 | [b],_,h=>by rw [(h b).1 qP]
 | b::c::l,hr,h=>by
  have h1:=(h b).1 qP
  have h2:=(h c).1 qP
  have h3:=hr.1 c qP
  omega
theorem sh7_L {L:List Int} {dec:Bool} (h:SolveOk [222,389] 1000 5 1 1 1 L dec):dec=true∧L=[2]:=by
 have h0:=h.ok
 rw [sh7_F] at h0
 obtain ⟨h1,O,e,h2,rfl⟩:=h0 rfl
 obtain ⟨h3,h4,_⟩:=in_all h2 qE qE
 refine ⟨h1,rise_one (h3.filter _) fun t=>?_⟩
 rw [List.mem_filter,h4]
 constructor
 ·rintro ⟨⟨g1,g2,g3⟩,_⟩
  have:t = -5∨t = -4∨t = -3∨t = -2∨t = -1∨t=0∨t=1∨t=2∨t=3∨t=4∨t=5:=by omega
  rcases this with rfl | rfl | rfl | rfl | rfl | rfl | rfl | rfl | rfl | rfl | rfl <;> first | rfl | exact absurd g3 qE
 ·rintro rfl
  exact ⟨⟨by decide,by decide,by decide⟩,by decide +kernel⟩
theorem sh7_solve (v w u z:Value):Meets Tryz.prog 28 [v,w,u,z,.int .i64 1] [(v,vd [222,389]),(w,zd 1000),(u,zd 5),(z,zd 1)] (fun r os fs=>os=[]∧∃ q,r=.tuple #[q,.bool true,.int .i64 0]∧fs=[(q,vd [2])]):=by
 have h:=slzSolve_ok v w u z (([222,389]:List Int).map cn) (cn 1000) (cn 5) (cn 1) 1 1 (fit7 qE) (a0 _) (sm7 1000 qE).len (a0 _) (sm7 5 qE).len (a0 _) (sm7 1 qE).len (by rw [fR,eR,eR,eR]; exact sh7_lil)
 rw [fR,eR,eR,eR] at h
 refine h.mono ?_
 rintro r os fs ⟨h1,q,L,dec,h2,h3,h4⟩
 obtain ⟨rfl,rfl⟩:=sh7_L h3
 exact ⟨h1,q,h2,h4⟩
theorem shown7_meets:Meets Tryz.prog 10 [] [] (fun r os fs=>os=[]∧fs=[]∧r=.bool true):=by
 refine mV Tryz.func10 ?_
 refine vP [3,5] rfl rfl qE fun s1=>?_
 refine cG (kS s1 [3,5] qE qE) fun p=>?_
 refine cF (sh7_shape) ?_
 rintro _ _ _ ⟨rfl,sh,rfl,rfl⟩
 refine cG (eZ 100 qE qE) fun n1=>?_
 refine cG (eZ 4 qE qE) fun n2=>?_
 refine cG (eZ 2 qE qE) fun n3=>?_
 refine cF (sh7_mat p n1 n2 n3) ?_
 rintro _ _ _ ⟨rfl,mt,rfl,rfl⟩
 refine cG (eZ 100 qE qE) fun n4=>?_
 refine cG (eZ 25 qE qE) fun n5=>?_
 refine cG (eZ 2 qE qE) fun n6=>?_
 refine cF (sh7_all p n4 n5 n6) ?_
 rintro _ _ _ ⟨rfl,al,rfl,rfl⟩
 refine cG (eZ 100 qE qE) fun n7=>?_
 refine cG (eZ 2 qE qE) fun n8=>?_
 refine cG (eZ 19 qE qE) fun n9=>?_
 refine cH (sh7_with p n7 n8 n9) ?_
 refine vP [222,389] rfl rfl qE fun s2=>?_
 refine cG (kS s2 [222,389] qE qE) fun p2=>?_
 refine cG (eZ 1000 qE qE) fun n10=>?_
 refine cG (eZ 5 qE qE) fun n11=>?_
 refine cG (eZ 1 qE qE) fun n12=>?_
 refine cF (sh7_solve p2 n10 n11 n12) ?_
 rintro _ _ _ ⟨rfl,so,rfl,rfl⟩
 refine mI ?_
 refine mI ?_
 refine mI ?_
 refine mI ?_
 refine cZ (size:=2) (n:=4) [spot 0 0,spot 1 0,spot 2 0,spot 0 1] [spE (0,0),spE (1,0),spE (2,0),spE (0,1)] rfl rfl qE qE ⟨Reads.spot _ _,rfl,Reads.spot _ _,rfl,Reads.spot _ _,rfl,Reads.spot _ _,rfl,trivial⟩ fun l1=>?_
 refine CallK.pre (a7 (v:=l1) (d:=ShD [(0,0),(1,0),(2,0),(0,1)]) (Knw.cast (Knw.sl_cong (e':=fun i=>spE (([(0,0),(1,0),(2,0),(0,1)]:List (Nat×Nat)).getD i (0,0))) (bC (List.Mem.head _)) fun i hi=>?_) rfl) (aB fun _ hF=>.tail _ hF)) ?_
 ·match i,hi with
  | 0,_=>rfl
  | 1,_=>rfl
  | 2,_=>rfl
  | 3,_=>rfl
 refine cH (shapeT sh l1 _ _ rfl) ?_
 refine vP [100,0,0] rfl rfl qE fun s3=>?_
 refine cG (kS s3 [100,0,0] qE qE) fun r1=>?_
 refine vP [0,400,0] rfl rfl qE fun s4=>?_
 refine cG (kS s4 [0,400,0] qE qE) fun r2=>?_
 refine vP [3,20, -2] rfl rfl qE fun s5=>?_
 refine cG (kS s5 [3,20, -2] qE qE) fun r3=>?_
 refine cZ (size:=1) (n:=3) [r1,r2,r3] [vd [100,0,0],vd [0,400,0],vd [3,20, -2]] rfl rfl qE qE ⟨aC qM,rfl,aC qM,rfl,aC qM,rfl,trivial⟩ fun l2=>?_
 refine CallK.pre (a7 (v:=l2) (d:=wd [[100,0,0],[0,400,0],[3,20, -2]]) (Knw.cast (Knw.sl_cong (e':=fun i=>V (([[100,0,0],[0,400,0],[3,20, -2]]:List (List Int)).map (·.map cn) |>.getD i [])) (bC (List.Mem.head _)) fun i hi=>?_) rfl) (aB fun _ hF=>.tail _ hF)) ?_
 ·match i,hi with
  | 0,_=>rfl
  | 1,_=>rfl
  | 2,_=>rfl
 refine cH (rowsT mt l2 _ _ rfl) ?_
 refine vP [-21, -1,19] rfl rfl qE fun s6=>?_
 refine cG (kS s6 [-21, -1,19] qE qE) fun r4=>?_
 refine cH (exallT al r4 _ _ rfl) ?_
 refine vP [2] rfl rfl qE fun s7=>?_
 refine cG (kS s7 [2] qE qE) fun r5=>?_
 refine cH (exallT so r5 _ _ rfl) ?_
 refine dI rfl rfl ?_
 refine dI rfl rfl ?_
 refine dI rfl rfl ?_
 refine dI rfl rfl ?_
 refine dI rfl rfl ?_
 exact fin ⟨rfl,rfl,rfl⟩ (aH _ _)
theorem lil_of {p:Row} {m t y:Bool×List Nat} {n:Int} (hp:limR p) (hm:Lim m.2) (ht:Lim t.2) (hy:Lim y.2) (h:smallR 4 1 p∧m.2.length≤1∧t.2.length≤1∧y.2.length≤1∧n≤2∧(1≤n→((dg (vv p):Nat) - 1:Int)*n≤4))
  (hok:sT (vv p) (jv m) (jv t) (jv y) n):∃ d k:Nat,n=(k:Int)∧Lil (vv p) (jv m) (jv t) (jv y) d k:=by
 obtain ⟨h1,h2,h3,h4,h5,h6⟩:=h
 have hs:=hok.1
 unfold shpR at hs
 split at hs
 ·simp at hs
 rename_i hb
 simp only [not_or,Int.not_lt] at hb
 have hf:=h1.fit hp
 refine ⟨dg (vv p) - 1,n.toNat,by omega,⟨by rw [Int.toNat_of_nonneg qN]; exact hok,by omega,by omega,by omega,?_,by omega,hf.szR,by rw [cV]; exact h1.1,gY hm h2,gY ht h3,gY hy h4⟩⟩
 have h7:=h6 hb.2.1
 have e:((dg (vv p):Nat) - 1:Int)*n=((((dg (vv p) - 1)*n.toNat:Nat)):Int):=by
  rw [Int.natCast_mul,Int.toNat_of_nonneg qN,Int.natCast_sub qN]; rfl
 omega
theorem sh_deg {P:List Int} {m t y:Int} {d k:Nat} (hl:Lil P m t y d k):shpR ((dg P:Nat) - 1:Int) (k:Int)=(shp d k,0):=by
 have h:=hl.ok.1
 unfold shpR at h ⊢
 split at h
 ·simp at h
 rename_i hb
 rw [if_neg hb,hl.dg]
 congr 2 <;> omega
theorem Eb_le {N:Nat} (h:N≤9):Eb 17 N≤17179869184:=by
 have hN:N=0∨N=1∨N=2∨N=3∨N=4∨N=5∨N=6∨N=7∨N=8∨N=9:=by omega
 rcases hN with rfl | rfl | rfl | rfl | rfl | rfl | rfl | rfl | rfl | rfl <;> decide
theorem iprod_sz {g:Nat→Int} {e:Nat}:∀ {n:Nat},(∀ i,i<n→sz (g i) e)→sz (nD g n) (e*n+1)
 | 0,_=>(jS 1 qE).mono qN
 | n+1,h=>by
  have:=(iprod_sz (n:=n) fun i hi=>h i qN).mul (h n qN)
  exact this.mono (by rw [Nat.mul_succ]; omega)
theorem lil_det {P:List Int} {m t y:Int} {d k:Nat} (hl:Lil P m t y d k) (v:Value):Meets Tryz.prog 46 [v] [(v,wd (lA P m t y d k))] (fun r os fs=>os=[]∧∃ q,r=.tuple #[q,.int .i64 0]∧fs=[(q,zd (det (shp d k).length (amat P m d k (fP t) (fP y))))]) :=
 detW v (lA P m t y d k) 17 _ ⟨hl.right,by rw [lA_len,hl.row0]⟩ (by rw [lA_len]; exact bP fun i j hi hj=>lA_mx hi hj) hl.szM (by rw [lA_len]; have:=hl.len; omega) (by rw [lA_len]; exact Eb_le hl.len)
theorem volumes7_meets (v:Value) (p:Row) (m t y:Bool×List Nat) (n:Int) (hp:limR p) (hm:Lim m.2) (ht:Lim t.2) (hy:Lim y.2) (hn:inK .i64 n) :
  Meets Tryz.prog 9 [v] [(v,nF p m t y n)] (fun r os fs=>os=[]∧fs=[]∧r=.bool true):=by
 refine mV Tryz.func9 ?_
 refine mX (aC (v:=v) (d:=nF p m t y n) qM) fun bq=>?_
 refine cH (shown7_meets) ?_
 refine aX (p:=bq) (d:=nF p m t y n) qM (load_ask _ _ _ _ _) fun yf=>?_
 refine cF (little7_meets yf p m t y n hn hp) ?_
 rintro _ _ _ ⟨rfl,rfl,b,rfl,hb⟩
 cases b
 ·
  exact fin ⟨rfl,rfl,rfl⟩ (aH _ _)
 ·
  have hb':=hb rfl
  obtain ⟨h4,hm2,ht2,hy2,hn2,_⟩:=hb'
  have hf:=h4.fit hp
  have lp:=h4.1
  have hmx:=fun z1 z2 z3 z4=>kP z1 z2 z3 z4 p m t y n 1 1 hf qN qE qE hm hm2 ht ht2 hy hy2 qE qE hn
  refine cQ (p:=bq) (d:=nF p m t y n) qM (pt_p p m t y n) fun a1=>?_
  refine aX (p:=a1) (d:=V p) qM (kX _) fun y1=>?_
  refine cQ (p:=bq) (d:=nF p m t y n) qM (pt_m p m t y n) fun a1=>?_
  refine aX (p:=a1) (d:=J m) qM (bM _) fun y2=>?_
  refine cQ (p:=bq) (d:=nF p m t y n) qM (pt_t p m t y n) fun a1=>?_
  refine aX (p:=a1) (d:=J t) qM (bM _) fun y3=>?_
  refine cQ (p:=bq) (d:=nF p m t y n) qM (pt_y p m t y n) fun a1=>?_
  refine aX (p:=a1) (d:=J y) qM (bM _) fun y4=>?_
  refine cQ (p:=bq) (d:=nF p m t y n) qM (pt_n p m t y n) fun a1=>?_
  refine bO (p:=a1) qM ?_
  by_cases hok:sT (vv p) (jv m) (jv t) (jv y) n
  case neg =>
   rw [show matR (vv p) (jv m) (jv t) (jv y) n=([],1) from if_neg hok] at hmx
   refine cF (hmx y1 y2 y3 y4) ?_
   rintro _ _ _ ⟨rfl,q1,rfl,rfl⟩
   refine dI rfl qE ?_
   refine dI rfl rfl ?_
   refine aT (v:=q1) (n:=0) qM fun _=>?_
   refine dI rfl rfl ?_
   exact fin ⟨rfl,rfl,rfl⟩ (aH _ _)
  obtain ⟨d,k,hnk,hl⟩:=lil_of hp hm ht hy (hb rfl) hok
  have hmat:=hl.mat
  rw [← hnk] at hmat
  rw [hmat] at hmx
  clear hmat
  have h9:=hl.len
  have hdd:=fun z=>rDegreeN z p (hf.mono qE)
  have hsh:=lY ((dg (vv p):Nat) - 1:Int) n (by simp only [inK]; have:=dY (vv p); rw [cV] at this; omega) hn
  have hsd:=sh_deg hl
  rw [← hnk] at hsd
  rw [hsd] at hsh
  clear hsd
  have hsc:=fun s (hs:s∈shp d k) z1 z2 z3=>rScale_meets z1 z2 z3 t y s 1 ht ht2 hy hy2 qE (by have:=hl.small hs; omega)
  have hpw:=fun z j (hj:j≤2)=>rPowerJ z m j 1 hm hm2 (by have:(j+1)*(1+1)≤3*(1+1):=Nat.mul_le_mul_right _ qN; omega)
  have hdt:=lil_det hl
  have hda:=hl.sz.det_abs
  have hzf:∀ i,i<(shp d k).length→sz (jv m^(k - ((shp d k).getD i (0,0)).2)) 3∧sz (jE (fP (jv t)) (fP (jv y)) ((shp d k).getD i (0,0))) 10:=fun i hi =>
   ⟨(lP hl.m1 _).mono qN,hl.scl (dT (0,0) hi)⟩
  have hzp:∀ i,i≤(shp d k).length→sz (nD (fun j=>jv m^(k - ((shp d k).getD j (0,0)).2)*jE (fP (jv t)) (fP (jv y)) ((shp d k).getD j (0,0))) i) 118:=fun i hi =>
   (iprod_sz (e:=13) fun j hj=>((hzf j qN).1.mul (hzf j qN).2).mono qE).mono qN
  have hsn:∀ i,i<(shp d k).length→((shp d k).getD i (0,0)).2≤k:=fun i hi=>(hl.small (dT (0,0) hi)).2.2
  have hsm:∀ i,i<(shp d k).length→(shp d k).getD i (0,0)∈shp d k:=fun i hi=>dT (0,0) hi
  have hds:sz (det (shp d k).length (amat (vv p) (jv m) d k (fP (jv t)) (fP (jv y)))) 118:=by
   have:=hzp _ (Nat.le_refl _)
   rw [← hda] at this
   unfold sz at this ⊢; simpa using this
  clear hl hb hok
  generalize det (shp d k).length (amat (vv p) (jv m) d k (fP (jv t)) (fP (jv y)))=D at *
  generalize lA (vv p) (jv m) (jv t) (jv y) d k=A at *
  generalize shp d k=S at *
  generalize fP (jv t)=T at *
  generalize fP (jv y)=Y at *
  refine cF (hmx y1 y2 y3 y4) ?_
  rintro _ _ _ ⟨rfl,q1,rfl,rfl⟩
  refine cX rfl (fun h=>h rfl) ?_
  refine aY [0,1,3,4,2,5,6,7,8,9,10] [0,1,2,3,4,5,6,7,9,8,10] qK qK ?_
  refine cQ (p:=bq) (d:=nF p m t y n) qM (pt_p p m t y n) fun a1=>?_
  refine aX (p:=a1) (d:=V p) qM (kX _) fun w1=>?_
  refine cQ (p:=bq) (d:=nF p m t y n) qM (pt_n p m t y n) fun a1=>?_
  refine bO (p:=a1) qM ?_
  refine cH (hdd w1) ?_
  refine cF (hsh) ?_
  rintro _ _ _ ⟨rfl,q2,rfl,rfl⟩
  refine cG (eZ 1 qE qE) fun w2=>?_
  refine aM (d:=I false []) fun ba hba=>?_
  refine aI (d:=zd 1) 0 rfl hba rfl qK (aC (v:=w2) qM) ?_
  refine aO (X:=Nat) (fun i=>([(1,bq),(3,.bool true),(4,q1),(6,q2),(8,ba),(9,.int .i64 (i:Nat))],[bE ba 2 1 (fun _=>zd (nD (fun j=>jv m^(k - (S.getD j (0,0)).2)*jE T Y (S.getD j (0,0))) i))],[(q1,wd A),(q2,ShD S),(bq,.ptr (nF p m t y n))])) (fun i=>i≤S.length) (fun i=>S.length - i) rfl ?_ ?_
  ·exact aU 0 (Nat.zero_le _) trivial qF (aA (bJ rfl) (aB qS))
  intro i hi
  simp only at hi ⊢
  refine aT (v:=q2) (n:=S.length) qM fun hmx=>?_
  refine aD _ rfl (fun hlt=>?_) (fun hlt=>?_)
  ·have hiS:i<S.length:=by omega
   obtain ⟨z1,z2⟩:=hzf i hiS
   have z3:=hzp i hi
   have h5:=hsn i hiS
   have h6:=hsc _ (hsm i hiS)
   have h7:=fun z=>hpw z (k - (S.getD i (0,0)).2) qN
   have hnx:nD (fun j=>jv m^(k - (S.getD j (0,0)).2)*jE T Y (S.getD j (0,0))) (i+1)=nD (fun j=>jv m^(k - (S.getD j (0,0)).2)*jE T Y (S.getD j (0,0))) i*(jv m^(k - (S.getD i (0,0)).2)*jE T Y (S.getD i (0,0))):=rfl
   rw [show ((k - (S.getD i (0,0)).2:Nat):Int)=n - ((S.getD i (0,0)).2:Nat) by omega] at h7
   generalize nD (fun j=>jv m^(k - (S.getD j (0,0)).2)*jE T Y (S.getD j (0,0))) i=X at *
   generalize jv m^(k - (S.getD i (0,0)).2)=Z1 at *
   generalize jE T Y (S.getD i (0,0))=Z2 at *
   have hm1:=fun z1' z2'=>rMulZZ' z1' z2' Z1 Z2 10 (z1.mono qE) z2 qE
   have hm2:=fun z1' z2'=>rMulZZ' z1' z2' X (Z1*Z2) 118 z3 ((z1.mul z2).mono qE) qE
   refine aY [0,1,2,3,4,5,6,7,8,9,10,12,13,14,15,16,17,18,19,11,20,21,22,23] [0,1,2,3,4,5,6,7,8,9,10,11,12,13,14,15,16,17,18,19,20,21,22,23] qK qK ?_
   refine aF (d:=zd X) 0 rfl hba rfl (aN _ _) fun x1=>?_
   refine cQ (p:=bq) (d:=nF p m t y n) qM (pt_m p m t y n) fun a1=>?_
   refine aX (p:=a1) (d:=J m) qM (bM _) fun x2=>?_
   refine cQ (p:=bq) (d:=nF p m t y n) qM (pt_n p m t y n) fun a1=>?_
   refine bO (p:=a1) qM ?_
   refine aQ (v:=q2) qM i rfl hiS fun a1=>?_
   refine qZ (v:=a1) (d:=spE (S.getD i (0,0))) (e:=.one (.int .i64 ((S.getD i (0,0)).2:Nat))) qM 1 rfl qE (aR (aK _)) fun a2=>?_
   refine bO (p:=a2) qM ?_
   refine ar rfl qI ?_
   refine cQ (p:=bq) (d:=nF p m t y n) qM (pt_t p m t y n) fun a1=>?_
   refine aX (p:=a1) (d:=J t) qM (bM _) fun x3=>?_
   refine cQ (p:=bq) (d:=nF p m t y n) qM (pt_y p m t y n) fun a1=>?_
   refine aX (p:=a1) (d:=J y) qM (bM _) fun x4=>?_
   refine aQ (v:=q2) qM i rfl hiS fun a3=>?_
   refine aX (p:=a3) (d:=spE (S.getD i (0,0))) qM (load_sp _) fun x5=>?_
   refine cG (h7 x2) fun x6=>?_
   refine cG (h6 x3 x4 x5) fun x7=>?_
   refine cG (hm1 x6 x7) fun x8=>?_
   refine cG (hm2 x1 x8) fun x9=>?_
   refine aI (d:=zd (X*(Z1*Z2))) 0 rfl hba rfl qK (aC (v:=x9) qM) ?_
   refine ar rfl qI ?_
   refine aU (i+1) qN (by simp only; omega) qF ?_
   rw [hnx]
   exact aA (bJ rfl) (aB qS)
  ·obtain rfl:i=S.length:=by omega
   rw [← hda]
   have hab:=fun z=>rAbsZ z D 118 hds qE
   refine cF (hdt q1) ?_
   rintro _ _ _ ⟨rfl,q3,rfl,rfl⟩
   refine aM (d:=I false []) fun bd hbd=>?_
   refine aI (d:=zd D) 0 rfl hbd rfl qK (aC (v:=q3) qM) ?_
   refine aY [0,1,2,3,4,5,6,8,7,9,10,11] [0,1,2,3,4,5,6,7,8,9,10,11] qK qK ?_
   refine dI rfl rfl ?_
   refine aF (d:=zd D) 0 rfl hbd rfl (aN _ _) fun x1=>?_
   refine aF (d:=zd (D.natAbs:Int)) 1 rfl hba rfl (aN _ _) fun x2=>?_
   refine cG (hab x1) fun x3=>?_
   refine cH (exT x3 x2 _ _ rfl) ?_
   exact fin ⟨rfl,rfl,rfl⟩ (dS (dS (aH _ _)))
open Go.ChangeShapes Go.WideShapes Go.ChangeAt Go.RowKit
open Go.Joins (open_agg2)
set_option maxRecDepth 100000 in
theorem rU (os:Os) (started:os.Started) (H:Type) (enc:TypeId×Value→H) :
  ReturnsInHanded {} Tryz.checked os 9 .any (Rows.slzVolumesSpec.pre6 enc Tryz.prog Tryz.f9 Rows.slzVolumesRow.domain false) (Rows.slzVolumesSpec.post enc Tryz.prog Tryz.f9 false true false false):=by
 refine returnsInHanded_of_change (C:=Tryz.checked) own0 started qK Tryz.func9
  (ChangeSpec.witness6 (enc:=enc) (C:=Tryz.checked) false ⟨#[], #[.agg #[.slice none 0 0,.bool false,.slice none 0 0,.bool false,.slice none 0 0,.bool false,.slice none 0 0,.int .i64 0]],[]⟩ 8 qK qK qK qK) ?_
 intro Wd base args ds gs before hval0 hW hcnd _
 have hval:∀ (j:Nat) t v,Tryz.f9.params[j]? = some t→args[j]? = some v→Value.okWide Tryz.prog Wd .any base t v:=hval0
 have hW':=hW
 obtain ⟨p,q,hA0,hV,rfl,hfz,hnd⟩:=hW
 have hA:DataW.TrodAll enc Tryz.prog Wd 0 (fun _=>true) true Tryz.f9.params.toList args.toList ds p:=hA0
 rw [Tryz.params9] at hA hval
 obtain ⟨v0,vs0,d0,ds0,p0,q0,hargs,rfl,rfl,h0,r0⟩:=trodAll_cons hA
 obtain ⟨rfl,rfl,rfl⟩:=trodAll_nil r0
 obtain rfl:args = #[v0]:=by cases args; simp_all
 obtain ⟨rfl,rfl⟩:=trodVars_none hV
 have k0:=h0
 have lt0:∀ x∈p0,x.block<Wd.heap.size:=by obtain ⟨m,hm⟩:=k0; exact DataW.trod_lt m _ _ _ hm
 obtain ⟨aP0,aM0,aT0,aY0,aN0,⟨lP0,lM0,lT0,lY0,lN0⟩,rd0⟩:=rd_ask (hval 0 28 v0 rfl rfl) h0
 clear hA0 hval0
 refine (calls_of_meets (w:=Wd) (volumes7_meets v0 aP0 aM0 aT0 aY0 aN0 lP0 lM0 lT0 lY0 lN0) ?_).mono fun e W2 ⟨he,bel⟩=>?_
 ·intro F hF
  simp only [List.mem_cons,List.not_mem_nil,or_false] at hF
  subst hF; exact rd0
 subst he
 exact ⟨_,rfl,_,_,_,[],_,[],hW',trodAll_mk1 (shut_bool Tryz.underlying4 _),(trodAll_cons_mk (Below.trod laid0 qK (of_decide_eq_true qK) k0 bel lt0) trodAll_mk0),rfl,bel.frame _,fun h=>by cases h⟩
theorem slzVolumes_holds:Rows.SlzVolumesSaid :=
 OpenClaim.holds_of_wide 9 Tryz.f9 rfl rfl rfl rfl rfl rfl rfl ⟨rfl,rfl,rfl,rfl,rfl⟩ rfl rfl rfl rfl rfl qK Tryz.func9 qK
  (of_decide_eq_true qK) (by unfold Func.isWrapper; first | (rw [if_pos (by decide +kernel)]; kernel_rfl) | (rw [if_neg (by decide +kernel)]; exact ⟨rfl,rfl⟩))
  (fun os started H enc _=>rU os started H enc)
#print axioms slzVolumes_holds
end Go.Proofs.YtjebljkoiaojaaaGreat
