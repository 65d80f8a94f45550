/- The law SlzTries is true of each input, and changes none. No condition. -/
import Derived.Test.YtjebljkoiaojaaaGreatM5
import Derived.Test.YtjebljkoiaojaaaGreatRows
import Derived.OpenShut
import Derived.Below
import Derived.Lib.SmallJoins
set_option linter.unusedVariables false
set_option linter.unusedSimpArgs false
namespace Go.Proofs.YtjebljkoiaojaaaGreat
open Go.RowKit Go.ChangeShapes Go.WideShapes Go.ChangeAt Go.Deep
section
variable {H:Type} {enc:TypeId×Value→H} {w:World} {base:Nat} {spare:Nat→Bool} {held:Bool}
theorem rd_ask5 {P:Program} {t tp ti tn:TypeId} {f0 f1 f2 f3 f4:Field} (ht:P.underlying t=some (.struct #[f0,f1,f2,f3,f4])) (e0:f0.type=tp∧f0.offset=0) (e1:f1.type=ti∧f1.offset=1) (e2:f2.type=ti∧f2.offset=3) (e3:f3.type=ti∧f3.offset=5) (e4:f4.type=tn∧f4.offset=7)
  (cp:P.cellsOf tp=1) (ci:P.cellsOf ti=2) (cn':P.cellsOf tn=1) (hn:P.underlying tn=some (.int .i64))
  (ep:∀ (n:Nat) (cs:List Value) (x:DataW H×List MemPlace),DataW.trod enc P w base spare held n tp cs=some x→∃ r:Row,limR r∧RdC (fun b=>b<w.heap.size) w (V r) cs)
  (ei:∀ (n:Nat) (cs:List Value) (x:DataW H×List MemPlace),cs.length=2→DataW.trod enc P w base spare held n ti cs=some x→∃ y:Bool×List Nat,Lim y.2∧RdC (fun b=>b<w.heap.size) w (J y) cs)
  {fuel:Nat} {cs:List Value} {x:DataW H×List MemPlace} (hl:cs.length=8) (h:DataW.trod enc P w base spare held fuel t cs=some x) :
  ∃ (p:Row) (m u y:Bool×List Nat) (n:Int),(limR p∧Lim m.2∧Lim u.2∧Lim y.2∧inK .i64 n)∧RdC (fun b=>b<w.heap.size) w (gT p m u y n) cs:=by
 obtain ⟨xs,n,_,rfl,_,hlen,hf⟩:=DataW.trod_struct ht h
 match xs,hlen with
 | [y0,y1,y2,y3,y4],_ =>
  have h0:=hf 0 f0 rfl
  have h1:=hf 1 f1 rfl
  have h2:=hf 2 f2 rfl
  have h3:=hf 3 f3 rfl
  have h4:=hf 4 f4 rfl
  rw [e0.1,e0.2,cp] at h0
  rw [e1.1,e1.2,ci] at h1
  rw [e2.1,e2.2,ci] at h2
  rw [e3.1,e3.2,ci] at h3
  rw [e4.1,e4.2,cn'] at h4
  match cs,hl with
  | [c0,c1,c2,c3,c4,c5,c6,c7],_ =>
   obtain ⟨p,a1,a2⟩:=ep _ _ _ h0
   obtain ⟨m,b1,b2⟩:=ei _ _ _ rfl h1
   obtain ⟨u,d1,d2⟩:=ei _ _ _ rfl h2
   obtain ⟨y,g1,g2⟩:=ei _ _ _ rfl h3
   obtain ⟨k,k1,_,k2⟩:=DataW.trod_int hn h4
   obtain rfl:c7=.int .i64 k:=by simpa using k1
   refine ⟨p,m,u,y,k,⟨a1,b1,d1,g1,?_⟩,?_⟩
   ·have:=i64_of k2
    simp only [inK]; omega
   ·exact ⟨[c0],_,rfl,a2,[c1,c2],_,rfl,b2,[c3,c4],_,rfl,d2,[c5,c6],[.int .i64 k],rfl,g2,⟨rfl,rfl⟩⟩
end
theorem rd_askV {P:Program} {t:TypeId} {fs:Array Field} {H:Type} {enc:TypeId×Value→H} {w:World} {r:Reach} {base base':Nat} {spare:Nat→Bool} {held:Bool} {v:Value} {d:DataW H} {p:List MemPlace} (ht:P.underlying t=some (.struct fs)) (hc:P.cellsOf t=8)
  (el:∀ (n:Nat) (cs:List Value) (x:DataW H×List MemPlace),cs.length=8→DataW.trod enc P w base spare held n t cs=some x→∃ (p:Row) (m u y:Bool×List Nat) (n:Int),(limR p∧Lim m.2∧Lim u.2∧Lim y.2∧inK .i64 n)∧RdC (fun b=>b<w.heap.size) w (gT p m u y n) cs)
  (hv:Value.okWide P w r base' t v) (h:DataW.Trod enc P w base spare held t v d p):∃ (p:Row) (m u y:Bool×List Nat) (n:Int),(limR p∧Lim m.2∧Lim u.2∧Lim y.2∧inK .i64 n)∧Rd (fun b=>b<w.heap.size) w v (gT p m u y n):=by
 obtain ⟨cs,rfl,hsz⟩:=okWide_struct ht hv
 obtain ⟨fuel,hf⟩:=h
 have hcs:(Value.agg cs).cells.toList=cs.toList:=by simp [Value.cells]
 rw [hcs] at hf
 obtain ⟨p,m,u,y,n,h1,h2⟩:=el _ _ _ (by simpa using hsz.trans hc) hf
 exact ⟨p,m,u,y,n,h1,cs.toList,h2,by unfold gT qR; simp⟩
set_option maxRecDepth 100000 in
theorem rd_ask {H:Type} {enc:TypeId×Value→H} {w:World} {r:Reach} {base base':Nat} {spare:Nat→Bool} {held:Bool} {v:Value} {d:DataW H} {p:List MemPlace} (hv:Value.okWide Tryz.prog w r base' 28 v)
  (h:DataW.Trod enc Tryz.prog w base spare held 28 v d p):∃ (p:Row) (m u y:Bool×List Nat) (n:Int),(limR p∧Lim m.2∧Lim u.2∧Lim y.2∧inK .i64 n)∧Rd (fun b=>b<w.heap.size) w v (gT p m u y n) :=
 have hc:Tryz.prog.cellsOf 28=8:=by kernel_rfl
 have el:∀ (n:Nat) (cs:List Value) (x:DataW H×List MemPlace),cs.length=8→DataW.trod enc Tryz.prog w base spare held n 28 cs=some x→∃ (p:Row) (m u y:Bool×List Nat) (n:Int),(limR p∧Lim m.2∧Lim u.2∧Lim y.2∧inK .i64 n)∧RdC (fun b=>b<w.heap.size) w (gT p m u y n) cs:=fun _ _ _ hl h =>
  rd_ask5 (tp:=23) (ti:=26) (tn:=3) Tryz.underlying28 ⟨rfl,rfl⟩ ⟨rfl,rfl⟩ ⟨rfl,rfl⟩ ⟨rfl,rfl⟩ ⟨rfl,rfl⟩ qK qK qK Tryz.underlying3 (fun _ _ _ h=>rd_poly h) (fun _ _ _ hl h=>rd_int hl h) hl h
 rd_askV (P:=Tryz.prog) (t:=28) (v:=v) (r:=r) (base:=base) (base':=base') Tryz.underlying28 hc el hv h
open Go.RowKit
theorem fit7 {l:List Int} (h:∀ x,x∈l→x.natAbs<18446744073709551616):Fit 1 (l.map cn):=Fit_cn fun x hx=>by
 have:=h x hx
 unfold sz; simpa using this
theorem sm7 (x:Int) (h:x.natAbs<18446744073709551616):sz x 1:=by unfold sz; simpa using h
theorem shapeT (v w:Value) (a b:List (Nat×Nat)) (h:a=b):Meets Tryz.prog 19 [v,w] [(v,ShD a),(w,ShD b)] (fun r os fs=>os=[]∧fs=[]∧r=.bool true):=by
 have:=tZ v w a b
 rw [decide_eq_true h] at this
 exact this
theorem rowsT (v w:Value) (a b:List (List Int)) (h:a=b):Meets Tryz.prog 20 [v,w] [(v,wd a),(w,wd b)] (fun r os fs=>os=[]∧fs=[]∧r=.bool true):=by
 subst h
 have:=vE v w (a.map (·.map cn)) (a.map (·.map cn))
 rw [decide_eq_true rfl] at this
 exact this
theorem sh7_shape:Meets Tryz.prog 15 [.int .i64 2,.int .i64 1] [] (fun r os fs=>os=[]∧∃ q,r=.tuple #[q,.int .i64 0]∧fs=[(q,ShD [(0,0),(1,0),(2,0),(0,1)])]):=by
 have h:=pB 2 1 (by simp only [inK]; omega) (by simp only [inK]; omega)
 rw [show shpR 2 1=([(0,0),(1,0),(2,0),(0,1)],0) by decide] at h
 exact h
theorem sh7_mat (v w u z:Value):Meets Tryz.prog 17 [v,w,u,z,.int .i64 1] [(v,vd [3,5]),(w,zd 100),(u,zd 4),(z,zd 2)] (fun r os fs=>os=[]∧∃ q,r=.tuple #[q,.int .i64 0]∧fs=[(q,wd [[100,0,0],[0,400,0],[3,20, -2]])]):=by
 have h:=nS v w u z (([3,5]:List Int).map cn) (cn 100) (cn 4) (cn 2) 1 1 1 (fit7 qE) qE qE qE (aY _) (sm7 100 qE).len (aY _) (sm7 4 qE).len (aY _) (sm7 2 qE).len qE qE (by simp only [inK]; omega)
 rw [fT,eI,eI,eI,show matR [3,5] 100 4 2 1=([[100,0,0],[0,400,0],[3,20, -2]],0) by decide +kernel] at h
 exact h
theorem sh7_all (v w u z:Value):Meets Tryz.prog 24 [v,w,u,z] [(v,vd [3,5]),(w,zd 100),(u,zd 25),(z,zd 2)] (fun r os fs=>os=[]∧∃ q,r=.tuple #[q,.int .i64 0]∧fs=[(q,vd [-21, -1,19])]):=by
 have h:=sX v w u z (([3,5]:List Int).map cn) (cn 100) (cn 25) (cn 2) 1 1 (fit7 qE) qE qE (aY _) (sm7 100 qE).len (aY _) (sm7 25 qE).len (aY _) (sm7 2 qE).len qE
 rw [fT,eI,eI,eI,show allR [3,5] 100 25 2=([-21, -1,19],0) by decide +kernel] at h
 exact h
theorem sh7_with (v w u z:Value):Meets Tryz.prog 13 [v,w,u,z] [(v,vd [3,5]),(w,zd 100),(u,zd 2),(z,zd 19)] (fun r os fs=>os=[]∧fs=[]∧r=.tuple #[.bool true,.int .i64 0]):=by
 have h:=uX v w u z (([3,5]:List Int).map cn) (cn 100) (cn 2) (cn 19) 1 1 (fit7 qE) qE qE (aY _) (sm7 100 qE).len (aY _) (sm7 2 qE).len (aY _) (sm7 19 qE).len qE
 rw [fT,eI,eI,eI,show kF [3,5] 100 2 19=(true,0) by decide +kernel] at h
 exact h
theorem sh7_lil:Lil [222,389] 1000 5 1 1 1:=⟨by decide,by decide,by decide,by decide,by decide,by decide,fun x hx=>sm7 x (by revert x; decide),by decide,sm7 _ qE,sm7 _ qE,sm7 _ qE⟩
theorem sh7_R:lR [222,389] 1000 5 1 1 1=[[4, -10,18],[-82,205,131],[882,295, -31]]:=by
 have h1:=sh7_lil.red
 have h2:=lred_cn (M:=lA [222,389] 1000 5 1 1 1) (f:=40) (R1:=[[4, -10,18],[-82,205,131],[882,295, -31]]) (R2:=[[4,7, -18],[29,51, -131],[-6, -12,31]]) (by decide +kernel) (by decide +kernel) (by decide +kernel)
 rw [h1] at h2
 exact congrArg (·.1) h2
theorem sh7_F:lF [222,389] 1000 5 1 1 1=([-2000,1000],true):=by
 unfold lF
 rw [sh7_R]
 decide +kernel
theorem rise_one {a:Int}:∀ {l:List Int},Rise l→(∀ t,t∈l↔t=a)→l=[a]
 | [],_,h=>absurd ((h a).2 rfl) qP
 | [b],_,h=>by rw [(h b).1 qP]
 | b::c::l,hr,h=>by
  have h1:=(h b).1 qP
  have h2:=(h c).1 qP
  have h3:=hr.1 c qP
  omega
theorem sh7_L {L:List Int} {dec:Bool} (h:SolveOk [222,389] 1000 5 1 1 1 L dec):dec=true∧L=[2]:=by
 have h0:=h.ok
 rw [sh7_F] at h0
 obtain ⟨h1,O,e,h2,rfl⟩:=h0 rfl
 obtain ⟨h3,h4,_⟩:=in_all h2 qE qE
 refine ⟨h1,rise_one (h3.filter _) fun t=>?_⟩
 rw [List.mem_filter,h4]
 constructor
 ·rintro ⟨⟨g1,g2,g3⟩,_⟩
  have:t = -5∨t = -4∨t = -3∨t = -2∨t = -1∨t=0∨t=1∨t=2∨t=3∨t=4∨t=5:=by omega
  rcases this with rfl | rfl | rfl | rfl | rfl | rfl | rfl | rfl | rfl | rfl | rfl <;> first | rfl | exact absurd g3 qE
 ·rintro rfl
  exact ⟨⟨by decide,by decide,by decide⟩,by decide +kernel⟩
theorem sh7_solve (v w u z:Value):Meets Tryz.prog 28 [v,w,u,z,.int .i64 1] [(v,vd [222,389]),(w,zd 1000),(u,zd 5),(z,zd 1)] (fun r os fs=>os=[]∧∃ q,r=.tuple #[q,.bool true,.int .i64 0]∧fs=[(q,vd [2])]):=by
 have h:=slzSolve_ok v w u z (([222,389]:List Int).map cn) (cn 1000) (cn 5) (cn 1) 1 1 (fit7 qE) (aY _) (sm7 1000 qE).len (aY _) (sm7 5 qE).len (aY _) (sm7 1 qE).len (by rw [fT,eI,eI,eI]; exact sh7_lil)
 rw [fT,eI,eI,eI] at h
 refine h.mono ?_
 rintro r os fs ⟨h1,q,L,dec,h2,h3,h4⟩
 obtain ⟨rfl,rfl⟩:=sh7_L h3
 exact ⟨h1,q,h2,h4⟩
theorem shown7_meets:Meets Tryz.prog 10 [] [] (fun r os fs=>os=[]∧fs=[]∧r=.bool true):=by
 refine mV Tryz.func10 ?_
 refine vY [3,5] rfl rfl qE fun s1=>?_
 refine cG (k8 s1 [3,5] qE qE) fun p=>?_
 refine cF (sh7_shape) ?_
 rintro _ _ _ ⟨rfl,sh,rfl,rfl⟩
 refine cG (eM 100 qE qE) fun n1=>?_
 refine cG (eM 4 qE qE) fun n2=>?_
 refine cG (eM 2 qE qE) fun n3=>?_
 refine cF (sh7_mat p n1 n2 n3) ?_
 rintro _ _ _ ⟨rfl,mt,rfl,rfl⟩
 refine cG (eM 100 qE qE) fun n4=>?_
 refine cG (eM 25 qE qE) fun n5=>?_
 refine cG (eM 2 qE qE) fun n6=>?_
 refine cF (sh7_all p n4 n5 n6) ?_
 rintro _ _ _ ⟨rfl,al,rfl,rfl⟩
 refine cG (eM 100 qE qE) fun n7=>?_
 refine cG (eM 2 qE qE) fun n8=>?_
 refine cG (eM 19 qE qE) fun n9=>?_
 refine cH (sh7_with p n7 n8 n9) ?_
 refine vY [222,389] rfl rfl qE fun s2=>?_
 refine cG (k8 s2 [222,389] qE qE) fun p2=>?_
 refine cG (eM 1000 qE qE) fun n10=>?_
 refine cG (eM 5 qE qE) fun n11=>?_
 refine cG (eM 1 qE qE) fun n12=>?_
 refine cF (sh7_solve p2 n10 n11 n12) ?_
 rintro _ _ _ ⟨rfl,so,rfl,rfl⟩
 refine mQ ?_
 refine mQ ?_
 refine mQ ?_
 refine mQ ?_
 refine cX (size:=2) (n:=4) [spot 0 0,spot 1 0,spot 2 0,spot 0 1] [spE (0,0),spE (1,0),spE (2,0),spE (0,1)] rfl rfl qE qE ⟨Reads.spot _ _,rfl,Reads.spot _ _,rfl,Reads.spot _ _,rfl,Reads.spot _ _,rfl,trivial⟩ fun l1=>?_
 refine CallK.pre (a7 (v:=l1) (d:=ShD [(0,0),(1,0),(2,0),(0,1)]) (Knw.cast (Knw.sl_cong (e':=fun i=>spE (([(0,0),(1,0),(2,0),(0,1)]:List (Nat×Nat)).getD i (0,0))) (a9 (List.Mem.head _)) fun i hi=>?_) rfl) (aA fun _ hF=>.tail _ hF)) ?_
 ·match i,hi with
  | 0,_=>rfl
  | 1,_=>rfl
  | 2,_=>rfl
  | 3,_=>rfl
 refine cH (shapeT sh l1 _ _ rfl) ?_
 refine vY [100,0,0] rfl rfl qE fun s3=>?_
 refine cG (k8 s3 [100,0,0] qE qE) fun r1=>?_
 refine vY [0,400,0] rfl rfl qE fun s4=>?_
 refine cG (k8 s4 [0,400,0] qE qE) fun r2=>?_
 refine vY [3,20, -2] rfl rfl qE fun s5=>?_
 refine cG (k8 s5 [3,20, -2] qE qE) fun r3=>?_
 refine cX (size:=1) (n:=3) [r1,r2,r3] [vd [100,0,0],vd [0,400,0],vd [3,20, -2]] rfl rfl qE qE ⟨aB qM,rfl,aB qM,rfl,aB qM,rfl,trivial⟩ fun l2=>?_
 refine CallK.pre (a7 (v:=l2) (d:=wd [[100,0,0],[0,400,0],[3,20, -2]]) (Knw.cast (Knw.sl_cong (e':=fun i=>V (([[100,0,0],[0,400,0],[3,20, -2]]:List (List Int)).map (·.map cn) |>.getD i [])) (a9 (List.Mem.head _)) fun i hi=>?_) rfl) (aA fun _ hF=>.tail _ hF)) ?_
 ·match i,hi with
  | 0,_=>rfl
  | 1,_=>rfl
  | 2,_=>rfl
 refine cH (rowsT mt l2 _ _ rfl) ?_
 refine vY [-21, -1,19] rfl rfl qE fun s6=>?_
 refine cG (k8 s6 [-21, -1,19] qE qE) fun r4=>?_
 refine cH (exallT al r4 _ _ rfl) ?_
 refine vY [2] rfl rfl qE fun s7=>?_
 refine cG (k8 s7 [2] qE qE) fun r5=>?_
 refine cH (exallT so r5 _ _ rfl) ?_
 refine cL rfl rfl ?_
 refine cL rfl rfl ?_
 refine cL rfl rfl ?_
 refine cL rfl rfl ?_
 refine cL rfl rfl ?_
 exact fin ⟨rfl,rfl,rfl⟩ (aH _ _)
theorem store_seal {P:Program} {ty:TypeId} {x v:Value} {d:Dat} {size:Nat} {e:Nat→Dat} {os:List Own} {fs:List bF} {K:cC} (hb:kT v)
  (hd:d.cells=size) (ht:(P.info? ty).map (·.size)=some size) (hx:Reads (bK v size 1 e::os) fs x d)
  (k':K undef os ((v,.ptr d)::fs)):StoreK P ty v x (bK v size 1 e::os) fs K :=
 ⟨fun G w hw=>((aF (K:=fun u os' fs'=>∃ os'' fs'',Seals os' fs' os'' fs''∧K u os'' fs'') 0 rfl hb hd ht hx ⟨_,_,Seals.box (os:=bK v size 1 (upd e 0 d)::os) 0 rfl hb rfl,k'⟩).out G w hw).mono fun _ _ ⟨_,_,⟨o2,f2,hs,hk⟩,hh⟩=>⟨o2,f2,hk,hs _ _ hh⟩⟩
theorem tries7_meets (v:Value) (p:Row) (m t y:Bool×List Nat) (n:Int) (hp:limR p) (hm:Lim m.2) (ht:Lim t.2) (hy:Lim y.2) (hn:inK .i64 n) :
  Meets Tryz.prog 4 [v] [(v,gT p m t y n)] (fun r os fs=>os=[]∧fs=[]∧r=.bool true):=by
 refine mV Tryz.func4 ?_
 refine kU (aB (v:=v) (d:=gT p m t y n) qM) fun bq=>?_
 refine cH (shown7_meets) ?_
 refine a0 [0,1,2,3,4,5,6,7,8,9,10,11,12,13,14,15,16] [0,1,2,3,4,5,6,7,8,9,10,11,12,13,14,15,16] qK qK ?_
 refine aU (p:=bq) (d:=gT p m t y n) qM (l6 _ _ _ _ _) fun yf=>?_
 refine cF (fits7_meets yf p m t y n) ?_
 rintro _ _ _ ⟨rfl,rfl,b,rfl,hb⟩
 cases b
 ·
  exact fin ⟨rfl,rfl,rfl⟩ (aH _ _)
 ·
  obtain ⟨h4,hm2,ht2,hy2⟩:=hb rfl
  have hf:=h4.fit hp
  have lp:=h4.1
  have z1:=(sm7 100 qE).mono (show 1≤2 by decide)
  have z2:=(sm7 4096 qE).mono (show 1≤2 by decide)
  have hc1:=fun y1 y2=>rCmpJ6 y1 y2 t (cn 100) 2 ht ht2 (aY _) z1.len qE
  have hc2:=fun y1 y2=>rCmpJ6 y1 y2 t (cn 4096) 2 ht ht2 (aY _) z2.len qE
  have e5:=fun z1 z2 z3 z4=>sX z1 z2 z3 z4 p m t y 2 2 hf qN qE hm hm2 ht ht2 hy hy2 qE
  have e6:=fun z1 z2 z3 z4=>rAll17_meets z1 z2 z3 z4 p m t y 2 2 hf qN qE hm hm2 ht ht2 hy hy2 qE qE
  generalize allR (vv p) (jv m) (jv t) (jv y)=M1 at *
  generalize (jv t - jv (cn 100)).sign=s1 at *
  generalize (jv t - jv (cn 4096)).sign=s2 at *
  clear z1 z2
  refine bP (p:=bq) (d:=gT p m t y n) qM (pt_t p m t y n) fun a1=>?_
  refine aU (p:=a1) (d:=J t) qM (a8 _) fun y1=>?_
  refine cG (eM 100 qE qE) fun y2=>?_
  refine cH (hc1 y1 y2) ?_
  refine aE _ rfl (fun h1=>?_) (fun h1=>?_)
  ·
   refine bP (p:=bq) (d:=gT p m t y n) qM (pt_t p m t y n) fun a1=>?_
   refine aU (p:=a1) (d:=J t) qM (a8 _) fun y3=>?_
   refine cG (eM 4096 qE qE) fun y4=>?_
   refine cH (hc2 y3 y4) ?_
   refine aE _ rfl (fun h2=>?_) (fun h2=>?_)
   ·
    exact fin ⟨rfl,rfl,rfl⟩ (aH _ _)
   refine aU (p:=bq) (d:=gT p m t y n) qM (l6 _ _ _ _ _) fun ya=>?_
   refine cG (own7_meets ya p m t y n h4 qN qN qN) fun yo=>?_
   refine aK (d:=askZ) fun bo ho=>?_
   refine store_seal (d:=gT p m t y n) ho rfl qK (aB (v:=yo) qM) ?_
   refine bP (p:=bo) (d:=gT p m t y n) qM (pt_p p m t y n) fun a1=>?_
   refine aU (p:=a1) (d:=V p) qM (jE _) fun w1=>?_
   refine bP (p:=bo) (d:=gT p m t y n) qM (pt_m p m t y n) fun a1=>?_
   refine aU (p:=a1) (d:=J m) qM (a8 _) fun w2=>?_
   refine bP (p:=bo) (d:=gT p m t y n) qM (pt_t p m t y n) fun a1=>?_
   refine aU (p:=a1) (d:=J t) qM (a8 _) fun w3=>?_
   refine bP (p:=bo) (d:=gT p m t y n) qM (pt_y p m t y n) fun a1=>?_
   refine aU (p:=a1) (d:=J y) qM (a8 _) fun w4=>?_
   refine cF (e5 w1 w2 w3 w4) ?_
   rintro _ _ _ ⟨rfl,m1,rfl,rfl⟩
   refine bP (p:=bq) (d:=gT p m t y n) qM (pt_p p m t y n) fun a1=>?_
   refine aU (p:=a1) (d:=V p) qM (jE _) fun w5=>?_
   refine bP (p:=bq) (d:=gT p m t y n) qM (pt_m p m t y n) fun a1=>?_
   refine aU (p:=a1) (d:=J m) qM (a8 _) fun w6=>?_
   refine bP (p:=bq) (d:=gT p m t y n) qM (pt_t p m t y n) fun a1=>?_
   refine aU (p:=a1) (d:=J t) qM (a8 _) fun w7=>?_
   refine bP (p:=bq) (d:=gT p m t y n) qM (pt_y p m t y n) fun a1=>?_
   refine aU (p:=a1) (d:=J y) qM (a8 _) fun w8=>?_
   refine cF (e6 w5 w6 w7 w8) ?_
   rintro _ _ _ ⟨rfl,m2,rfl,rfl⟩
   refine cH (exallT m1 m2 _ _ rfl) ?_
   refine cL rfl rfl ?_
   refine aU (p:=bq) (d:=gT p m t y n) qM (l6 _ _ _ _ _) fun y17=>?_
   refine aU (p:=bo) (d:=gT p m t y n) qM (l6 _ _ _ _ _) fun y18=>?_
   refine cH (wC y17 y18 p m t y n) ?_
   exact fin ⟨rfl,rfl,rfl⟩ (aH _ _)
  ·
   refine aU (p:=bq) (d:=gT p m t y n) qM (l6 _ _ _ _ _) fun ya=>?_
   refine cG (own7_meets ya p m t y n h4 qN qN qN) fun yo=>?_
   refine aK (d:=askZ) fun bo ho=>?_
   refine store_seal (d:=gT p m t y n) ho rfl qK (aB (v:=yo) qM) ?_
   refine bP (p:=bo) (d:=gT p m t y n) qM (pt_p p m t y n) fun a1=>?_
   refine aU (p:=a1) (d:=V p) qM (jE _) fun w1=>?_
   refine bP (p:=bo) (d:=gT p m t y n) qM (pt_m p m t y n) fun a1=>?_
   refine aU (p:=a1) (d:=J m) qM (a8 _) fun w2=>?_
   refine bP (p:=bo) (d:=gT p m t y n) qM (pt_t p m t y n) fun a1=>?_
   refine aU (p:=a1) (d:=J t) qM (a8 _) fun w3=>?_
   refine bP (p:=bo) (d:=gT p m t y n) qM (pt_y p m t y n) fun a1=>?_
   refine aU (p:=a1) (d:=J y) qM (a8 _) fun w4=>?_
   refine cF (e5 w1 w2 w3 w4) ?_
   rintro _ _ _ ⟨rfl,m1,rfl,rfl⟩
   refine bP (p:=bq) (d:=gT p m t y n) qM (pt_p p m t y n) fun a1=>?_
   refine aU (p:=a1) (d:=V p) qM (jE _) fun w5=>?_
   refine bP (p:=bq) (d:=gT p m t y n) qM (pt_m p m t y n) fun a1=>?_
   refine aU (p:=a1) (d:=J m) qM (a8 _) fun w6=>?_
   refine bP (p:=bq) (d:=gT p m t y n) qM (pt_t p m t y n) fun a1=>?_
   refine aU (p:=a1) (d:=J t) qM (a8 _) fun w7=>?_
   refine bP (p:=bq) (d:=gT p m t y n) qM (pt_y p m t y n) fun a1=>?_
   refine aU (p:=a1) (d:=J y) qM (a8 _) fun w8=>?_
   refine cF (e6 w5 w6 w7 w8) ?_
   rintro _ _ _ ⟨rfl,m2,rfl,rfl⟩
   refine cH (exallT m1 m2 _ _ rfl) ?_
   refine cL rfl rfl ?_
   refine aU (p:=bq) (d:=gT p m t y n) qM (l6 _ _ _ _ _) fun y17=>?_
   refine aU (p:=bo) (d:=gT p m t y n) qM (l6 _ _ _ _ _) fun y18=>?_
   refine cH (wC y17 y18 p m t y n) ?_
   exact fin ⟨rfl,rfl,rfl⟩ (aH _ _)
open Go.ChangeShapes Go.WideShapes Go.ChangeAt Go.RowKit
open Go.Joins (open_agg2)
set_option maxRecDepth 100000 in
theorem uY (os:Os) (started:os.Started) (H:Type) (enc:TypeId×Value→H) :
  ReturnsInHanded {} Tryz.checked os 4 .any (Rows.slzTriesSpec.pre6 enc Tryz.prog Tryz.f4 Rows.slzTriesRow.domain false) (Rows.slzTriesSpec.post enc Tryz.prog Tryz.f4 false true false false):=by
 refine returnsInHanded_of_change (C:=Tryz.checked) own0 started qK Tryz.func4
  (ChangeSpec.witness6 (enc:=enc) (C:=Tryz.checked) false ⟨#[], #[.agg #[.slice none 0 0,.bool false,.slice none 0 0,.bool false,.slice none 0 0,.bool false,.slice none 0 0,.int .i64 0]],[]⟩ 8 qK qK qK qK) ?_
 intro Wd base args ds gs before hval0 hW hcnd _
 have hval:∀ (j:Nat) t v,Tryz.f4.params[j]? = some t→args[j]? = some v→Value.okWide Tryz.prog Wd .any base t v:=hval0
 have hW':=hW
 obtain ⟨p,q,hA0,hV,rfl,hfz,hnd⟩:=hW
 have hA:DataW.TrodAll enc Tryz.prog Wd 0 (fun _=>true) true Tryz.f4.params.toList args.toList ds p:=hA0
 rw [Tryz.params4] at hA hval
 obtain ⟨v0,vs0,d0,ds0,p0,q0,hargs,rfl,rfl,h0,r0⟩:=trodAll_cons hA
 obtain ⟨rfl,rfl,rfl⟩:=trodAll_nil r0
 obtain rfl:args = #[v0]:=by cases args; simp_all
 obtain ⟨rfl,rfl⟩:=trodVars_none hV
 have k0:=h0
 have lt0:∀ x∈p0,x.block<Wd.heap.size:=by obtain ⟨m,hm⟩:=k0; exact DataW.trod_lt m _ _ _ hm
 obtain ⟨aP0,aM0,aT0,aY0,aN0,⟨lP0,lM0,lT0,lY0,lN0⟩,rd0⟩:=rd_ask (hval 0 28 v0 rfl rfl) h0
 clear hA0 hval0
 refine (calls_of_meets (w:=Wd) (tries7_meets v0 aP0 aM0 aT0 aY0 aN0 lP0 lM0 lT0 lY0 lN0) ?_).mono fun e W2 ⟨he,bel⟩=>?_
 ·intro F hF
  simp only [List.mem_cons,List.not_mem_nil,or_false] at hF
  subst hF; exact rd0
 subst he
 exact ⟨_,rfl,_,_,_,[],_,[],hW',trodAll_mk1 (shut_bool Tryz.underlying4 _),(trodAll_cons_mk (Below.trod laid0 qK (of_decide_eq_true qK) k0 bel lt0) trodAll_mk0),rfl,bel.frame _,fun h=>by cases h⟩
theorem slzTries_holds:Rows.SlzTriesSaid :=
 OpenClaim.holds_of_wide 4 Tryz.f4 rfl rfl rfl rfl rfl rfl rfl ⟨rfl,rfl,rfl,rfl,rfl⟩ rfl rfl rfl rfl rfl qK Tryz.func4 qK
  (of_decide_eq_true qK) (by unfold Func.isWrapper; first | (rw [if_pos (by decide +kernel)]; kernel_rfl) | (rw [if_neg (by decide +kernel)]; exact ⟨rfl,rfl⟩))
  (fun os started H enc _=>uY os started H enc)
#print axioms slzTries_holds
end Go.Proofs.YtjebljkoiaojaaaGreat
