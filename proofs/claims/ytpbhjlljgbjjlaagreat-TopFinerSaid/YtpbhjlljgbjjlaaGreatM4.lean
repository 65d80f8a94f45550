/- Towards the statement, part 4 of 6: contracts of functions, and what they rest on. Conditions: each theorem names its own. -/
import Derived.Test.YtpbhjlljgbjjlaaGreatM3
import Derived.ProofKit
import Derived.Deep.Slices
import Derived.Laws.BytesArg
import Derived.Lib.ConvBytes
import Derived.Laws.StructEq
set_option linter.unusedVariables false
set_option linter.unusedSimpArgs false
namespace Go.Proofs.YtpbhjlljgbjjlaaGreat
open Go.RowKit
structure Jb where
 f:Int
 e:Int
 a:Nat
 b:Nat
 m:Int
def cO (j:Jb):Dat:=.cat (.one (.int .i64 j.f)) (.cat (.one (.int .i64 j.e)) (.cat (.one (.int .u64 (j.a:Nat))) (.cat (.one (.int .u64 (j.b:Nat))) (.one (.int .i64 j.m)))))
theorem cZ:oL Tryz.prog 24 5:=inferInstance
structure mP (LV:Int→Nat→Int→Lk7):Prop where
 run:∀ (f:Int) (p:Nat) (m:Int),0≤f∧f≤5→4318952042648305664≤p→p<4652218415073722368→1≤m∧m≤128 →
  aY Tryz.prog 30 [.int .i64 f,.int .u64 (p:Nat),.int .i64 m] [] (fun r os fs=>os=[]∧∃ x,r=.tuple #[x,.int .i64 0]∧fs=[(x,fY (LV f p m))])
 ok:∀ f p m,(LV f p m).b.ok 60
 kk:∀ f p m, -50000≤(LV f p m).k∧(LV f p m).k≤50000
 ss:∀ f p m,0≤(LV f p m).s∧(LV f p m).s≤1500
 ll:∀ f p m,sz (LV f p m).l 60
 mm:∀ f p m,sz (LV f p m).m 60
structure Jb.in64 (j:Jb):Prop where
 f : -9223372036854775808≤j.f∧j.f<9223372036854775808
 e : -9223372036854775808≤j.e∧j.e<9223372036854775808
 a:j.a<18446744073709551616
 b:j.b<18446744073709551616
 m : -9223372036854775808≤j.m∧j.m<9223372036854775808
structure Jb.ok (j:Jb):Prop where
 f:0≤j.f∧j.f≤5
 e : -64≤j.e∧j.e≤9
 ab:j.a<j.b∧j.b≤j.a+2048
 b:j.b≤4503599627370496
 m:1≤j.m∧j.m≤128
def pat0 (e:Int):Nat:=(e+1023).toNat*4503599627370496
def pat (e:Int) (i:Nat):Nat:=pat0 e+i
theorem nG {e:Int} {i:Nat} (h : -64≤e∧e≤9) (hi:i<4503599627370496):4318952042648305664≤pat e i∧pat e i<4652218415073722368:=by unfold pat pat0; omega
theorem bFirst' (e:Int) (h : -64≤e∧e≤9):aY Tryz.prog 54 [.int .i64 e] [] (fun r os fs=>os=[]∧fs=[]∧r=.tuple #[.int .u64 (pat0 e:Nat),.int .i64 0]):=by
 have h1:=bFirst e qN qN
 rwa [show (e+1023).toNat*2^52%18446744073709551616=pat0 e by unfold pat0; rw [show (2:Nat)^52=4503599627370496 from rfl]; omega] at h1
def mayV (LV:Int→Nat→Int→Lk7) (j:Jb) (i:Nat):Bool:=decide (-1022≤(LV j.f (pat j.e i) j.m).e∧(LV j.f (pat j.e i) j.m).e≤1022)
def t7 (j:Jb):Bool:=decide (j.a<j.b∧j.b≤j.a+2048)
def oO (LV:Int→Nat→Int→Lk7) (j:Jb):Prop:=j.ok∧mayV LV j j.a=true∧mayV LV j (j.b - 1)=true
def cA (j:Jb):Nat:=(j.b - j.a+3)/4
theorem pV (v:Value) (j:Jb) (i:Nat) (he : -64≤j.e∧j.e≤9) (hi:i≤4503599627370496):aY Tryz.prog 29 [v,.int .u64 (i:Nat)] [(v,cO j)] (fun r os fs=>os=[]∧fs=[]∧r=.int .u64 (pat j.e i:Nat)):=by
 have hp0:pat0 j.e<4652218415073722368:=by unfold pat0; omega
 refine mV Tryz.func29 ?_
 refine aQ (aA (d:=cO j) qM) fun p1 hp1=>?_
 refine aF 0 rfl hp1 ?_
 refine aB (u:=.int .i64 j.e) 0 rfl (aC (aJ (aG _))) ?_
 refine cH (bFirst' j.e he) ?_
 refine ar rfl ⟨by omega,by omega⟩ ?_
 rw [show ((pat0 j.e:Nat):Int)+(i:Nat)=((pat j.e i:Nat):Int) by unfold pat; omega]
 exact fin ⟨rfl,rfl,rfl⟩ (dS (aD (fs':=[]) qS))
theorem jSpans (v:Value) (j:Jb) (h:j.in64):aY Tryz.prog 14 [v] [(v,cO j)] (fun r os fs=>os=[]∧fs=[]∧r=.bool (t7 j)):=by
 have ha:=h.a
 have hb:=h.b
 refine mV Tryz.func14 ?_
 refine aQ (aA (d:=cO j) qM) fun p1 hp1=>?_
 refine aF 0 rfl hp1 ?_
 refine aB (u:=.int .u64 (j.a:Nat)) 0 rfl (aC (aC (aJ (aG _)))) ?_
 refine aF 0 rfl hp1 ?_
 refine aB (u:=.int .u64 (j.b:Nat)) 0 rfl (aC (aC (aC (aJ (aG _))))) ?_
 refine aO (((j.a:Nat):Int)<(j.b:Nat)) rfl (fun hc=>?_) (fun hc=>?_)
 ·refine aF 0 rfl hp1 ?_
  refine aB (u:=.int .u64 (j.b:Nat)) 0 rfl (aC (aC (aC (aJ (aG _))))) ?_
  refine aF 0 rfl hp1 ?_
  refine aB (u:=.int .u64 (j.a:Nat)) 0 rfl (aC (aC (aJ (aG _)))) ?_
  refine ar rfl qI ?_
  refine aO (((j.b:Nat):Int) - (j.a:Nat)≤2048) rfl (fun hd=>?_) (fun hd=>?_)
  ·rw [show t7 j=true from decide_eq_true ⟨by omega,by omega⟩]
   exact fin ⟨rfl,rfl,rfl⟩ (dS (aD (fs':=[]) qS))
  ·rw [show t7 j=false from decide_eq_false qN]
   exact fin ⟨rfl,rfl,rfl⟩ (dS (aD (fs':=[]) qS))
 ·rw [show t7 j=false from decide_eq_false qN]
  exact fin ⟨rfl,rfl,rfl⟩ (dS (aD (fs':=[]) qS))
theorem jMay {LV:Int→Nat→Int→Lk7} (hL:mP LV) (v:Value) (j:Jb) (h:j.ok) (i:Nat) (hi:i<4503599627370496):aY Tryz.prog 15 [v,.int .u64 (i:Nat)] [(v,cO j)] (fun r os fs=>os=[]∧fs=[]∧r=.bool (mayV LV j i)):=by
 refine mV Tryz.func15 ?_
 refine aQ (aA (d:=cO j) qM) fun p1 hp1=>?_
 refine fN [0,1,2,3,5,6,4,7,8,9,10,11,12,13] [0,1,2,3,4,5,6,7,8,9,11,12,10,13] qK qK qK ?_
 refine aF 0 rfl hp1 ?_
 refine aB (u:=.int .i64 j.f) 0 rfl (aJ (aG _)) ?_
 refine aE (d:=cO j) 0 rfl hp1 rfl cZ fun u1=>?_
 refine aF 0 rfl hp1 ?_
 refine aB (u:=.int .i64 j.m) 0 rfl (aC (aC (aC (aC (aG _))))) ?_
 refine cH (pV u1 j i h.e qN) ?_
 refine cF (hL.run j.f (pat j.e i) j.m h.f (nG h.e hi).1 (nG h.e hi).2 h.m) ?_
 rintro _ _ _ ⟨rfl,x1,rfl,rfl⟩
 refine aI (d:=fY pS) fun p2 hp2=>?_
 refine aH (d:=fY (LV j.f (pat j.e i) j.m)) 0 rfl hp2 rfl qK (aA (d:=fY (LV j.f (pat j.e i) j.m)) qM) ?_
 refine bG rfl qN ?_
 refine aF 0 rfl hp2 ?_
 refine aB (u:=.int .i64 ((LV j.f (pat j.e i) j.m).e)) 0 rfl (aC (aC (aJ (aG _)))) ?_
 refine aO (-1022≤(LV j.f (pat j.e i) j.m).e) rfl (fun hc=>?_) (fun hc=>?_)
 ·refine aF 0 rfl hp2 ?_
  refine aB (u:=.int .i64 ((LV j.f (pat j.e i) j.m).e)) 0 rfl (aC (aC (aJ (aG _)))) ?_
  refine aO ((LV j.f (pat j.e i) j.m).e≤1022) rfl (fun hd=>?_) (fun hd=>?_)
  ·rw [show mayV LV j i=true from decide_eq_true ⟨hc,hd⟩]
   exact fin ⟨rfl,rfl,rfl⟩ (dS (dS (aD (fs':=[]) qS)))
  ·rw [show mayV LV j i=false from decide_eq_false (fun h=>hd h.2)]
   exact fin ⟨rfl,rfl,rfl⟩ (dS (dS (aD (fs':=[]) qS)))
 ·rw [show mayV LV j i=false from decide_eq_false (fun h=>hc h.1)]
  exact fin ⟨rfl,rfl,rfl⟩ (dS (dS (aD (fs':=[]) qS)))
open Classical in
set_option maxHeartbeats 1600000 in
theorem jValid {LV:Int→Nat→Int→Lk7} (hL:mP LV) (v:Value) (j:Jb) (h:j.in64):aY Tryz.prog 7 [v] [(v,cO j)] (fun r os fs=>os=[]∧fs=[]∧r=.int .i64 (if oO LV j then 0 else 4)):=by
 have ha:=h.a
 have hb:=h.b
 unfold oO
 refine mV Tryz.func7 ?_
 refine aQ (aA (d:=cO j) qM) fun p1 hp1=>?_
 refine aF 0 rfl hp1 ?_
 refine aB (u:=.int .i64 j.f) 0 rfl (aJ (aG _)) ?_
 refine aO (0≤j.f) rfl (fun c1=>?_) (fun c1=>?_)
 ·refine aF 0 rfl hp1 ?_
  refine aB (u:=.int .i64 j.f) 0 rfl (aJ (aG _)) ?_
  refine aO (j.f≤5) rfl (fun c2=>?_) (fun c2=>?_)
  ·refine aF 0 rfl hp1 ?_
   refine aB (u:=.int .i64 j.e) 0 rfl (aC (aJ (aG _))) ?_
   refine aO (-64≤j.e) rfl (fun c3=>?_) (fun c3=>?_)
   ·refine aF 0 rfl hp1 ?_
    refine aB (u:=.int .i64 j.e) 0 rfl (aC (aJ (aG _))) ?_
    refine aO (j.e≤9) rfl (fun c4=>?_) (fun c4=>?_)
    ·refine aE (d:=cO j) 0 rfl hp1 rfl cZ fun u1=>?_
     refine cH (jSpans u1 j h) ?_
     rcases Bool.eq_false_or_eq_true (t7 j) with hs | hs
     ·rw [hs]
      refine aF 0 rfl hp1 ?_
      refine aB (u:=.int .u64 (j.b:Nat)) 0 rfl (aC (aC (aC (aJ (aG _))))) ?_
      refine aO (((j.b:Nat):Int)≤4503599627370496) rfl (fun c5=>?_) (fun c5=>?_)
      ·refine aF 0 rfl hp1 ?_
       refine aB (u:=.int .i64 j.m) 0 rfl (aC (aC (aC (aC (aG _))))) ?_
       refine aO (1≤j.m) rfl (fun c6=>?_) (fun c6=>?_)
       ·refine aF 0 rfl hp1 ?_
        refine aB (u:=.int .i64 j.m) 0 rfl (aC (aC (aC (aC (aG _))))) ?_
        refine aO (j.m≤128) rfl (fun c7=>?_) (fun c7=>?_)
        ·refine aE (d:=cO j) 0 rfl hp1 rfl cZ fun u2=>?_
         refine aF 0 rfl hp1 ?_
         refine aB (u:=.int .u64 (j.a:Nat)) 0 rfl (aC (aC (aJ (aG _)))) ?_
         have hab:=of_decide_eq_true hs
         have hok:j.ok:=⟨⟨c1,c2⟩,⟨c3,c4⟩,hab,by omega,⟨c6,c7⟩⟩
         refine cH (jMay hL u2 j hok j.a qN) ?_
         rcases Bool.eq_false_or_eq_true (mayV LV j j.a) with hm1 | hm1
         ·rw [hm1]
          refine aE (d:=cO j) 0 rfl hp1 rfl cZ fun u3=>?_
          refine aF 0 rfl hp1 ?_
          refine aB (u:=.int .u64 (j.b:Nat)) 0 rfl (aC (aC (aC (aJ (aG _))))) ?_
          refine ar rfl ⟨by omega,by omega⟩ ?_
          rw [show ((j.b:Nat):Int) - 1=((j.b - 1:Nat):Int) by omega]
          refine cH (jMay hL u3 j hok (j.b - 1) qN) ?_
          rcases Bool.eq_false_or_eq_true (mayV LV j (j.b - 1)) with hm2 | hm2
          ·rw [hm2]
           rw [if_pos ⟨hok,rfl,rfl⟩]
           exact fin ⟨rfl,rfl,rfl⟩ (dS (aD (fs':=[]) qS))
          ·rw [hm2]
           rw [if_neg (fun h=>Bool.noConfusion h.2.2)]
           exact fin ⟨rfl,rfl,rfl⟩ (dS (aD (fs':=[]) qS))
         ·rw [hm1]
          rw [if_neg (fun h=>Bool.noConfusion h.2.1)]
          exact fin ⟨rfl,rfl,rfl⟩ (dS (aD (fs':=[]) qS))
        ·rw [if_neg (fun h=>by have:=h.1.m; omega)]
         exact fin ⟨rfl,rfl,rfl⟩ (dS (aD (fs':=[]) qS))
       ·rw [if_neg (fun h=>by have:=h.1.m; omega)]
        exact fin ⟨rfl,rfl,rfl⟩ (dS (aD (fs':=[]) qS))
      ·rw [if_neg (fun h=>by have:=h.1.b; omega)]
       exact fin ⟨rfl,rfl,rfl⟩ (dS (aD (fs':=[]) qS))
     ·rw [hs]
      rw [if_neg (fun h=>by rw [show t7 j=true from decide_eq_true h.1.ab] at hs; cases hs)]
      exact fin ⟨rfl,rfl,rfl⟩ (dS (aD (fs':=[]) qS))
    ·rw [if_neg (fun h=>by have:=h.1.e; omega)]
     exact fin ⟨rfl,rfl,rfl⟩ (dS (aD (fs':=[]) qS))
   ·rw [if_neg (fun h=>by have:=h.1.e; omega)]
    exact fin ⟨rfl,rfl,rfl⟩ (dS (aD (fs':=[]) qS))
  ·rw [if_neg (fun h=>by have:=h.1.f; omega)]
   exact fin ⟨rfl,rfl,rfl⟩ (dS (aD (fs':=[]) qS))
 ·rw [if_neg (fun h=>by have:=h.1.f; omega)]
  exact fin ⟨rfl,rfl,rfl⟩ (dS (aD (fs':=[]) qS))
theorem jUnits (v:Value) (j:Jb) (h:j.in64) (hab:j.a<j.b∧j.b≤j.a+2048):aY Tryz.prog 25 [v] [(v,cO j)] (fun r os fs=>os=[]∧fs=[]∧r=.int .i64 (cA j:Nat)):=by
 have hsp:∀ u,aY Tryz.prog 14 [u] [(u,cO j)] (fun r os fs=>os=[]∧fs=[]∧r=.bool true):=fun u=>by
  have:=jSpans u j h; rwa [show t7 j=true from decide_eq_true hab] at this
 have ha:=h.a
 have hb:=h.b
 refine mV Tryz.func25 ?_
 refine aQ (aA (d:=cO j) qM) fun p1 hp1=>?_
 refine aE (d:=cO j) 0 rfl hp1 rfl cZ fun u1=>?_
 refine cH (hsp u1) ?_
 refine aF 0 rfl hp1 ?_
 refine aB (u:=.int .u64 (j.b:Nat)) 0 rfl (aC (aC (aC (aJ (aG _))))) ?_
 refine aF 0 rfl hp1 ?_
 refine aB (u:=.int .u64 (j.a:Nat)) 0 rfl (aC (aC (aJ (aG _)))) ?_
 refine ar rfl qI ?_
 refine bJ ⟨_,Tryz.underlying22⟩ Tryz.underlying3 (((j.b:Nat):Int) - (j.a:Nat)) (bT ⟨by omega,by omega⟩) ?_
 refine ar rfl qI ?_
 refine ar rfl qI ?_
 refine gH qN qN (by exact ⟨by omega,by omega⟩) ?_
 rw [show (((j.b:Nat):Int) - (j.a:Nat)+4 - 1)/4=((cA j:Nat):Int) by unfold cA; omega]
 exact fin ⟨rfl,rfl,rfl⟩ (dS (aD (fs':=[]) qS))
theorem jUnit (v:Value) (j:Jb) (h:j.in64) (hab:j.a<j.b∧j.b≤j.a+2048) (he : -64≤j.e∧j.e≤9) (hb2:j.b≤4503599627370496) (i:Nat) (hi:i<cA j):aY Tryz.prog 73 [v,.int .i64 (i:Nat)] [(v,cO j)] (fun r os fs=>os=[]∧fs=[]∧r=.tuple #[.int .u64 (pat j.e (j.a+4*i):Nat),.int .i64 (min (j.b - (j.a+4*i)) 4:Nat),.int .i64 0]):=by
 have ha:=h.a
 have hb:=h.b
 have hu:4*i<j.b - j.a:=by unfold cA at hi; omega
 refine mV Tryz.func73 ?_
 refine aQ (aA (d:=cO j) qM) fun p1 hp1=>?_
 refine aL rfl qN ?_
 refine aE (d:=cO j) 0 rfl hp1 rfl cZ fun u1=>?_
 refine cH (jUnits u1 j h hab) ?_
 refine aL rfl qN ?_
 refine aF 0 rfl hp1 ?_
 refine aB (u:=.int .u64 (j.a:Nat)) 0 rfl (aC (aC (aJ (aG _)))) ?_
 refine ar rfl qI ?_
 refine bJ ⟨_,Tryz.underlying3⟩ Tryz.underlying22 (((i:Nat):Int)*4) (bT ⟨by omega,by omega⟩) ?_
 refine ar rfl ⟨by omega,by omega⟩ ?_
 rw [show ((j.a:Nat):Int)+((i:Nat):Int)*4=((j.a+4*i:Nat):Int) by omega]
 refine bC [0,1,3,4,5,6,7,8,2,9,10,11] [0,1,2,3,4,5,6,7,9,8,10,11] qK qK ?_
 refine aE (d:=cO j) 0 rfl hp1 rfl cZ fun u2=>?_
 refine aF 0 rfl hp1 ?_
 refine aB (u:=.int .u64 (j.b:Nat)) 0 rfl (aC (aC (aC (aJ (aG _))))) ?_
 refine ar rfl ⟨by omega,by omega⟩ ?_
 rw [show ((j.b:Nat):Int) - ((j.a+4*i:Nat):Int)=((j.b - (j.a+4*i):Nat):Int) by omega]
 refine gJ ?_
 rw [show min ((j.b - (j.a+4*i):Nat):Int) 4=((min (j.b - (j.a+4*i)) 4:Nat):Int) by omega]
 refine bJ ⟨_,Tryz.underlying22⟩ Tryz.underlying3 ((min (j.b - (j.a+4*i)) 4:Nat):Int) (bT ⟨by omega,by omega⟩) ?_
 refine cH (pV u2 j (j.a+4*i) he qN) ?_
 exact fin ⟨rfl,rfl,rfl⟩ (dS (aD (fs':=[]) qS))
open Go.RowKit Go.ChangeShapes Go.WideShapes Go.ChangeAt Go.Deep
theorem i64_of {n:Int} (h:(Lit.int .i64 n).wf=true) : -9223372036854775808≤n∧n<9223372036854775808:=by
 simp [Lit.wf,IntKind.min,IntKind.max,IntKind.signed,IntKind.bits] at h
 omega
theorem u64_of {n:Int} (h:(Lit.int .u64 n).wf=true):0≤n∧n<18446744073709551616:=by
 simp [Lit.wf,IntKind.min,IntKind.max,IntKind.signed,IntKind.bits] at h
 omega
section
variable {H:Type} {enc:TypeId×Value→H} {w:World} {base:Nat} {spare:Nat→Bool} {held:Bool}
theorem rd_job5 {P:Program} {t t0 t1 t2 t3 t4:TypeId} {f0 f1 f2 f3 f4:Field} (ht:P.underlying t=some (.struct #[f0,f1,f2,f3,f4])) (e0:f0.type=t0∧f0.offset=0) (e1:f1.type=t1∧f1.offset=1) (e2:f2.type=t2∧f2.offset=2) (e3:f3.type=t3∧f3.offset=3) (e4:f4.type=t4∧f4.offset=4)
  (c0:P.cellsOf t0=1) (c1:P.cellsOf t1=1) (c2:P.cellsOf t2=1) (c3:P.cellsOf t3=1) (c4:P.cellsOf t4=1)
  (u0:P.underlying t0=some (.int .i64)) (u1:P.underlying t1=some (.int .i64)) (u2:P.underlying t2=some (.int .u64)) (u3:P.underlying t3=some (.int .u64)) (u4:P.underlying t4=some (.int .i64))
  {fuel:Nat} {cs:List Value} {x:DataW H×List MemPlace} (hl:cs.length=5) (h:DataW.trod enc P w base spare held fuel t cs=some x) :
  ∃ j:Jb,j.in64∧RdC (fun b=>b<w.heap.size) w (cO j) cs:=by
 obtain ⟨xs,n,_,rfl,_,hlen,hf⟩:=DataW.trod_struct ht h
 match xs,hlen with
 | [y0,y1,y2,y3,y4],_ =>
  have h0:=hf 0 f0 rfl
  have h1:=hf 1 f1 rfl
  have h2:=hf 2 f2 rfl
  have h3:=hf 3 f3 rfl
  have h4:=hf 4 f4 rfl
  rw [e0.1,e0.2,c0] at h0
  rw [e1.1,e1.2,c1] at h1
  rw [e2.1,e2.2,c2] at h2
  rw [e3.1,e3.2,c3] at h3
  rw [e4.1,e4.2,c4] at h4
  match cs,hl with
  | [v0,v1,v2,v3,v4],_ =>
   obtain ⟨k0,a0,_,b0⟩:=DataW.trod_int u0 h0
   obtain ⟨k1,a1,_,b1⟩:=DataW.trod_int u1 h1
   obtain ⟨k2,a2,_,b2⟩:=DataW.trod_int u2 h2
   obtain ⟨k3,a3,_,b3⟩:=DataW.trod_int u3 h3
   obtain ⟨k4,a4,_,b4⟩:=DataW.trod_int u4 h4
   obtain rfl:v0=.int .i64 k0:=by simpa using a0
   obtain rfl:v1=.int .i64 k1:=by simpa using a1
   obtain rfl:v2=.int .u64 k2:=by simpa using a2
   obtain rfl:v3=.int .u64 k3:=by simpa using a3
   obtain rfl:v4=.int .i64 k4:=by simpa using a4
   have g2:=u64_of b2
   have g3:=u64_of b3
   refine ⟨⟨k0,k1,k2.toNat,k3.toNat,k4⟩,⟨i64_of b0,i64_of b1,by show k2.toNat<_; omega,by show k3.toNat<_; omega,i64_of b4⟩,?_⟩
   show RdC _ w (.cat (.one (.int .i64 k0)) (.cat (.one (.int .i64 k1)) (.cat (.one (.int .u64 (k2.toNat:Int))) (.cat (.one (.int .u64 (k3.toNat:Int))) (.one (.int .i64 k4)))))) _
   rw [Int.toNat_of_nonneg g2.1,Int.toNat_of_nonneg g3.1]
   exact ⟨[.int .i64 k0],_,rfl,⟨rfl,rfl⟩,[.int .i64 k1],_,rfl,⟨rfl,rfl⟩,[.int .u64 k2],_,rfl,⟨rfl,rfl⟩,[.int .u64 k3],[.int .i64 k4],rfl,⟨rfl,rfl⟩,⟨rfl,rfl⟩⟩
end
theorem rd_jobV {P:Program} {t:TypeId} {fs:Array Field} {H:Type} {enc:TypeId×Value→H} {w:World} {r:Reach} {base base':Nat} {spare:Nat→Bool} {held:Bool} {v:Value} {d:DataW H} {p:List MemPlace} (ht:P.underlying t=some (.struct fs)) (hc:P.cellsOf t=5)
  (el:∀ (n:Nat) (cs:List Value) (x:DataW H×List MemPlace),cs.length=5→DataW.trod enc P w base spare held n t cs=some x→∃ j:Jb,j.in64∧RdC (fun b=>b<w.heap.size) w (cO j) cs)
  (hv:Value.okWide P w r base' t v) (h:DataW.Trod enc P w base spare held t v d p):∃ j:Jb,j.in64∧Rd (fun b=>b<w.heap.size) w v (cO j):=by
 obtain ⟨cs,rfl,hsz⟩:=okWide_struct ht hv
 obtain ⟨fuel,hf⟩:=h
 have hcs:(Value.agg cs).cells.toList=cs.toList:=by simp [Value.cells]
 rw [hcs] at hf
 obtain ⟨j,h1,h2⟩:=el _ _ _ (by simpa using hsz.trans hc) hf
 exact ⟨j,h1,cs.toList,h2,by unfold cO oA; simp⟩
set_option maxRecDepth 100000 in
theorem rd_job {H:Type} {enc:TypeId×Value→H} {w:World} {r:Reach} {base base':Nat} {spare:Nat→Bool} {held:Bool} {v:Value} {d:DataW H} {p:List MemPlace} (hv:Value.okWide Tryz.prog w r base' 24 v)
  (h:DataW.Trod enc Tryz.prog w base spare held 24 v d p):∃ j:Jb,j.in64∧Rd (fun b=>b<w.heap.size) w v (cO j) :=
 have hc:Tryz.prog.cellsOf 24=5:=by kernel_rfl
 have el:∀ (n:Nat) (cs:List Value) (x:DataW H×List MemPlace),cs.length=5→DataW.trod enc Tryz.prog w base spare held n 24 cs=some x→∃ j:Jb,j.in64∧RdC (fun b=>b<w.heap.size) w (cO j) cs:=fun _ _ _ hl h =>
  rd_job5 (t0:=3) (t1:=3) (t2:=22) (t3:=22) (t4:=3) Tryz.underlying24 ⟨rfl,rfl⟩ ⟨rfl,rfl⟩ ⟨rfl,rfl⟩ ⟨rfl,rfl⟩ ⟨rfl,rfl⟩ qK qK qK qK qK Tryz.underlying3 Tryz.underlying3 Tryz.underlying22 Tryz.underlying22 Tryz.underlying3 hl h
 rd_jobV (P:=Tryz.prog) (t:=24) (v:=v) (r:=r) (base:=base) (base':=base') Tryz.underlying24 hc el hv h
theorem calls_of_meets {g:FuncId} {args:List Value} {fs:List bA} {w:World} (h:aY Tryz.prog g args fs (fun r os fs'=>os=[]∧fs'=[]∧r=.bool true)) (hf:HF (fun b=>b<w.heap.size) w fs) :
  Calls Tryz.prog g args.toArray w fun e w'=>e=.returned (.bool true)∧Below w.heap.size w w':=by
 refine (h.calls (fun _=>False) w (fun _ h=>h.elim) (hf.mono (fun _ _=>rfl) fun b hb=>⟨hb,id⟩)).mono ?_
 rintro e w' ⟨v,os',fs',rfl,⟨rfl,rfl,rfl⟩,hh⟩
 exact ⟨rfl,hh.below⟩
theorem own0:ownKnob Tryz.prog.godebug=none:=by kernel_rfl
theorem laid0:laidOutB Tryz.prog=true:=by kernel_rfl
theorem turnV_sz {next term:Nat→P2→P2} {first:P2} {e s:Nat} (h0:szP first e) (hs:∀ k p e,szP p e→szP (next k p) (e+s)) (ht:∀ k p e,szP p e→szP (term k p) (e+1)) {n:Nat} (hn:n≤400) (he:e≤2000) (hs2:s≤2000):szP (lW next term first n) 2000000:=by
 have hk:2*n*s≤800*2000:=Nat.mul_le_mul qN hs2
 have h1:szP (smT next term first (2*n)) 1700000:=(smT_sz h0 hs ht (2*n)).mono qN
 have h2:=ht (2*n) _ _ ((oS h0 hs (2*n)).mono (show e+2*n*s≤1699999 by omega))
 exact ⟨h1.1.mono qE,(szAdd h1.2 h2.2).mono qE⟩
theorem sinV_sz {t q:Int} {n a:Nat} (ht:sz t a) (ha:a≤1000) (hn:n≤400):szP (oZ t q n) 2000000 :=
 turnV_sz (e:=a) (s:=a+a) ⟨ht,ht⟩ (fun _ _ _ hp=>eG hp (ht.mul ht) _ _) (fun _ _ _ hp=>hp.mono qN) hn qN qN
theorem cosV_sz {t q:Int} {n a:Nat} (ht:sz t a) (ha:a≤1000) (hn:n≤400):szP (lS t q n) 2000000 :=
 turnV_sz (e:=130) (s:=a+a) (uJ q) (fun _ _ _ hp=>eG hp (ht.mul ht) _ _) (fun _ _ _ hp=>hp.mono qN) hn qN qN
theorem atanV_sz {t q:Int} {n a:Nat} (ht:sz t a) (ha:a≤1000) (hn:n≤400):szP (fF t q n) 2000000 :=
 turnV_sz (e:=a) (s:=a+a) ⟨ht,ht⟩ (fun _ _ _ hp=>eG hp (ht.mul ht) _ _) (fun _ _ _ hp=>kD hp _) hn qN qN
def Nr (A E x x':Int):Prop:=x' - x*A≤E*A∧x*A - x'≤E*A
theorem Nr.mono {A E F x x':Int} (hA:0≤A) (h:Nr A E x x') (hEF:E≤F):Nr A F x x':=by
 have:=Int.mul_le_mul_of_nonneg_right hEF hA
 exact ⟨Int.le_trans h.1 this,Int.le_trans h.2 this⟩
theorem Nr.exact (A x:Int):Nr A 0 x (x*A):=⟨by omega,by omega⟩
theorem Nr.add {A E F x x' y y':Int} (h:Nr A E x x') (g:Nr A F y y'):Nr A (E+F) (x+y) (x'+y'):=by
 obtain ⟨h1,h2⟩:=h
 obtain ⟨g1,g2⟩:=g
 exact ⟨by rw [Int.add_mul,Int.add_mul]; omega,by rw [Int.add_mul,Int.add_mul]; omega⟩
theorem Nr.neg {A E x x':Int} (h:Nr A E x x'):Nr A E (-x) (-x'):=by
 obtain ⟨h1,h2⟩:=h
 exact ⟨by rw [Int.neg_mul]; omega,by rw [Int.neg_mul]; omega⟩
theorem Nr.sub {A E F x x' y y':Int} (h:Nr A E x x') (g:Nr A F y y'):Nr A (E+F) (x - y) (x' - y'):=by
 have:=h.add g.neg
 rwa [← Int.sub_eq_add_neg,← Int.sub_eq_add_neg] at this
theorem Nr.times {A E x x':Int} (h:Nr A E x x') {k:Int} (hk:0≤k):Nr A (E*k) (x*k) (x'*k):=by
 obtain ⟨h1,h2⟩:=h
 have e1:=Int.mul_le_mul_of_nonneg_right h1 hk
 have e2:=Int.mul_le_mul_of_nonneg_right h2 hk
 exact ⟨by grind,by grind⟩
def St (D t p p':Int):Prop:=D*(p' - 1)≤p*t∧p*t≤D*(p'+1)
theorem sY {D:Int} (hD:0<D) (t p:Int):St D t p (p*t/D):=by
 have h1:=Int.mul_ediv_add_emod (p*t) D
 have h2:=Int.emod_lt_of_pos (p*t) hD
 have h3:=Int.emod_nonneg (p*t) (Int.ne_of_gt hD)
 exact ⟨by rw [Int.mul_sub]; omega,by rw [Int.mul_add]; omega⟩
theorem st_upz {D:Int} (hD:0<D) (t p:Int):St D t p (upz (p*t) D):=by
 have h1:=Int.mul_ediv_add_emod (-(p*t)) D
 have h2:=Int.emod_lt_of_pos (-(p*t)) hD
 have h3:=Int.emod_nonneg (-(p*t)) (Int.ne_of_gt hD)
 unfold upz
 exact ⟨by rw [Int.mul_sub,Int.mul_neg]; omega,by rw [Int.mul_add,Int.mul_neg]; omega⟩
theorem step_nr {A B D t t' p p' p1 p1' Ep Et E2:Int} (hA:1≤A) (hB:1≤B) (hD:0<D) (h:St D t p p1) (h':St (D*B) t' p' p1') (ht0:0≤t) (hp':0≤p')
  (hp:Nr A Ep p p') (ht:Nr B Et t t') (hα:Ep*t≤Ep*D) (hE2:p'*Et≤E2*(A*D)):Nr A (Ep+E2+2) p1 p1':=by
 have hDB:0<D*B:=Int.mul_pos hD qN
 have hB0:0≤B:=by omega
 have hA0:0≤A:=by omega
 obtain ⟨a1,a2⟩:=h
 obtain ⟨b1,b2⟩:=h'
 obtain ⟨c1,c2⟩:=hp
 obtain ⟨d1,d2⟩:=ht
 have e1:=Int.mul_le_mul_of_nonneg_left d1 hp'
 have e2:=Int.mul_le_mul_of_nonneg_left d2 hp'
 have f1:=Int.mul_le_mul_of_nonneg_right c1 ht0
 have f2:=Int.mul_le_mul_of_nonneg_right c2 ht0
 have g1:=Int.mul_le_mul_of_nonneg_right a1 hA0
 have g2:=Int.mul_le_mul_of_nonneg_right a2 hA0
 have i1:=Int.mul_le_mul_of_nonneg_right hα hA0
 have k1:p'*t≤D*(p1+1)*A+Ep*D*A:=by grind
 have k2:D*(p1 - 1)*A - Ep*D*A≤p'*t:=by grind
 have k3:=Int.mul_le_mul_of_nonneg_right k1 hB0
 have k4:=Int.mul_le_mul_of_nonneg_right k2 hB0
 have k5:=Int.mul_le_mul_of_nonneg_right hE2 hB0
 have u1:D*B*(p1' - 1)≤D*B*(A*(p1+1+Ep+E2)):=by grind
 have u2:D*B*(A*(p1 - 1 - Ep - E2))≤D*B*(p1'+1):=by grind
 have v1:=Int.le_of_mul_le_mul_left u1 hDB
 have v2:=Int.le_of_mul_le_mul_left u2 hDB
 have w1:A*(p1+1+Ep+E2)=p1*A+A+(Ep+E2)*A:=by grind
 have w2:A*(p1 - 1 - Ep - E2)=p1*A - A - (Ep+E2)*A:=by grind
 have w3:(Ep+E2+2)*A=(Ep+E2)*A+2*A:=by grind
 exact ⟨by omega,by omega⟩
def Sqn (D:Nat→Int) (t:Int) (p:Nat→Int):Prop:=∀ k,St (D k) t (p k) (p (k+1))
theorem seq_nr {A B t t' Et E2 e0:Int} {D:Nat→Int} {p p':Nat→Int} (hA:1≤A) (hB:1≤B) (hD:∀ k,0<D k) (h:Sqn D t p) (h':Sqn (fun k=>D k*B) t' p') (ht0:0≤t) (hp':∀ k,0≤p' k)
  (he0:0≤e0) (hE20:0≤E2) (hp:Nr A e0 (p 0) (p' 0)) (ht:Nr B Et t t') (hα:e0*t≤e0*D 0) (hβ:∀ k,1≤k→t≤D k) (hE2:∀ k,p' k*Et≤E2*(A*D k)):∀ k:Nat,Nr A (e0+k*(E2+2)) (p k) (p' k)
 | 0=>by
  have:e0+((0:Nat):Int)*(E2+2)=e0:=by simp
  rw [this]; exact hp
 | k+1=>by
  have ih:=seq_nr hA hB hD h h' ht0 hp' he0 hE20 hp ht hα hβ hE2 k
  have hnn:0≤e0+(k:Nat)*(E2+2):=by
   have:=Int.mul_nonneg (Int.natCast_nonneg k) (show 0≤E2+2 by omega)
   omega
  have ha:(e0+(k:Nat)*(E2+2))*t≤(e0+(k:Nat)*(E2+2))*D k:=by
   rcases Nat.eq_zero_or_pos k with rfl | hk
   ·simpa using hα
   ·exact Int.mul_le_mul_of_nonneg_left (hβ k hk) hnn
  have:=step_nr hA hB (hD k) (h k) (h' k) ht0 (hp' k) ih ht ha (hE2 k)
  have e:e0+((k+1:Nat):Int)*(E2+2)=e0+(k:Nat)*(E2+2)+E2+2:=by
   rw [show ((k+1:Nat):Int)=(k:Nat)+1 by omega,Int.add_mul]; omega
  rw [e]
  exact this
def lX (p:Nat→Int):Nat→Int
 | 0=>0
 | k+1=>lX p k+p k
theorem sumP_nr {A E:Int} {p p':Nat→Int} (n:Nat) (h:∀ k,k<n→Nr A E (p k) (p' k)):Nr A (n*E) (lX p n) (lX p' n):=by
 induction n with
 | zero=>exact ⟨by simp [lX],by simp [lX]⟩
 | succ n ih =>
  have h1:=(ih fun k hk=>h k qN).add (h n qN)
  have e:((n+1:Nat):Int)*E=n*E+E:=by rw [show ((n+1:Nat):Int)=(n:Nat)+1 by omega,Int.add_mul]; omega
  rw [e]; exact h1
theorem t9 {t G:Int} {D:Nat→Int} {p:Nat→Int} (hG:2≤G) (hD:∀ k,0<D k) (h:Sqn D t p) (hp:∀ k,0≤p k) (k0:Nat) (hg:∀ k,k0≤k→t*G≤D k):∀ j:Nat,(p (k0+j) - 2)*G^j≤p k0
 | 0=>by rw [Int.pow_zero,Int.mul_one,Nat.add_zero]; omega
 | j+1=>by
  have ih:=t9 hG hD h hp k0 hg j
  have h1:=(h (k0+j)).1
  have h2:=hg (k0+j) qN
  have hDk:=hD (k0+j)
  have hpj:=hp (k0+j)
  have hGj:0≤G^j:=Int.pow_nonneg qN
  have e1:=Int.mul_le_mul_of_nonneg_left h2 hpj
  have e2:=Int.mul_le_mul_of_nonneg_right h1 (show 0≤G by omega)
  have e3:D (k0+j)*((p (k0+j+1) - 1)*G)≤D (k0+j)*p (k0+j):=by grind
  have e4:=Int.le_of_mul_le_mul_left e3 hDk
  have e5:(p (k0+j+1) - 2)*G≤p (k0+j) - 2:=by grind
  have e6:=Int.mul_le_mul_of_nonneg_right e5 hGj
  rw [Int.pow_succ,show k0+(j+1)=k0+j+1 from rfl]
  have e7:(p (k0+j+1) - 2)*(G^j*G)=(p (k0+j+1) - 2)*G*G^j:=by grind
  omega
theorem sumP_far {A E τ:Int} {u u':Nat→Int} {n:Nat} (h:∀ k,k<n→Nr A E (u k) (u' k)):∀ m:Nat,(∀ k,n≤k→k<n+m → -(τ*A)≤u' k∧u' k≤τ*A)→Nr A (n*E+m*τ) (lX u n) (lX u' (n+m))
 | 0,_=>by
  have:=sumP_nr n h
  simpa using this
 | m+1,ht=>by
  have ih:=sumP_far h m fun k h1 h2=>ht k h1 qN
  have hk:=ht (n+m) qN qN
  obtain ⟨h1,h2⟩:=ih
  have e:(n*E+((m+1:Nat):Int)*τ)*A=(n*E+(m:Nat)*τ)*A+τ*A:=by
   rw [show ((m+1:Nat):Int)=(m:Nat)+1 by omega]; grind
  have e2:lX u' (n+(m+1))=lX u' (n+m)+u' (n+m):=rfl
  exact ⟨by rw [e,e2]; omega,by rw [e,e2]; omega⟩
def cJ (b:Bool) (p:P2):Int:=if b then p.2 else p.1
theorem sX (b:Bool) (p:P2) (t c s:Int) (hc:0<c):St (c*2^far s) t (cJ b p) (cJ b (cC p t c s)):=by
 have hD:0<c*2^far s:=Int.mul_pos hc (Int.pow_pos qE)
 cases b
 ·exact sY hD t p.1
 ·exact st_upz hD t p.2
theorem upz_nonneg {x d:Int} (hd:0<d) (h:0≤x):0≤upz x d:=by
 have h1:=pY hd (Int.le_refl x)
 exact Int.le_trans (Int.ediv_nonneg h (Int.le_of_lt hd)) h1
theorem rS (b:Bool) {p:P2} {t c s:Int} (hp:∀ b,0≤cJ b p) (ht:0≤t) (hc:0<c):0≤cJ b (cC p t c s):=by
 have hD:0<c*2^far s:=Int.mul_pos hc (Int.pow_pos qE)
 cases b
 ·exact Int.ediv_nonneg (Int.mul_nonneg (hp false) ht) (Int.le_of_lt hD)
 ·exact upz_nonneg hD (Int.mul_nonneg (hp true) ht)
structure Nx (next:Nat→P2→P2) (T s:Int) (c:Nat→Int):Prop where
 eq:∀ k p,next (k+1) p=cC p T (c k) s
 pos:∀ k,1≤c k
 t0:0≤T
theorem Nx.sq {next:Nat→P2→P2} {T s:Int} {c:Nat→Int} (h:Nx next T s c) (f:P2) (b:Bool):Sqn (fun k=>c k*2^far s) T (fun k=>cJ b (itN next f k)):=by
 intro k
 show St _ _ _ (cJ b (next (k+1) (itN next f k)))
 rw [h.eq]
 exact sX b _ _ _ _ (by have:=h.pos k; omega)
theorem Nx.nonneg {next:Nat→P2→P2} {T s:Int} {c:Nat→Int} (h:Nx next T s c) {f:P2} (hf:∀ b,0≤cJ b f):∀ k b,0≤cJ b (itN next f k)
 | 0,b=>hf b
 | k+1,b=>by
  show 0≤cJ b (next (k+1) (itN next f k))
  rw [h.eq]
  exact rS b (h.nonneg hf k) h.t0 (by have:=h.pos k; omega)
def vZ (term:Nat→P2→P2):Prop:=term=fC∨term=fR
theorem f8 {term:Nat→P2→P2} (h:vZ term) {p:P2} (hp:∀ b,0≤cJ b p) (k:Nat) (b:Bool):0≤cJ b (term k p):=by
 rcases h with rfl | rfl
 ·exact hp b
 ·exact rS b hp qE qN
theorem kY {term:Nat→P2→P2} (h:vZ term) {p:P2} (hp:∀ b,0≤cJ b p) (k:Nat) (b:Bool):cJ b (term k p)≤cJ b p+1:=by
 rcases h with rfl | rfl
 ·show cJ b p≤_; omega
 ·have h1:=(sX b p 1 (2*k+1) 0 qN).1
  have h2:=hp b
  rw [show (2:Int)^far 0=1 by rfl,Int.mul_one,Int.mul_one] at h1
  have h3:(2*(k:Int)+1)*(cJ b (cC p 1 (2*k+1) 0) - 1)≤(2*(k:Int)+1)*cJ b p:=by
   have:cJ b p*1≤cJ b p*(2*(k:Int)+1):=Int.mul_le_mul_of_nonneg_left qN h2
   have e:(2*(k:Int)+1)*cJ b p=cJ b p*(2*(k:Int)+1):=Int.mul_comm _ _
   omega
  have:=Int.le_of_mul_le_mul_left h3 qN
  show cJ b (cC p 1 (2*k+1) 0)≤_
  omega
theorem term_nr {term:Nat→P2→P2} (h:vZ term) {A E:Int} (hA:1≤A) (hE:0≤E) {p p':P2} (hp':∀ b,0≤cJ b p') (k:Nat) (a b:Bool) (hn:Nr A E (cJ a p) (cJ b p')):Nr A (E+2) (cJ a (term k p)) (cJ b (term k p')):=by
 rcases h with rfl | rfl
 ·exact hn.mono qN qN
 ·have h1:=sX a p 1 (2*k+1) 0 qN
  have h2:=sX b p' 1 (2*k+1) 0 qN
  rw [show (2:Int)^far 0=1 by rfl] at h1 h2
  have:=step_nr (A:=A) (B:=1) (D:=(2*(k:Int)+1)*1) (Et:=0) (E2:=0) hA (Int.le_refl _) qN h1 (by rw [Int.mul_one]; exact h2) qE (hp' b) hn ⟨by decide,by decide⟩ (Int.mul_le_mul_of_nonneg_left qN hE) (by rw [Int.mul_zero,Int.zero_mul]; exact Int.le_refl _)
  rw [Int.add_zero] at this
  exact this
structure Two (next next':Nat→P2→P2) (f f':Int) (n n':Nat) (A e τ:Int):Prop where
 hA:1≤A
 he:0≤e
 hn:n≤n'
 near:∀ k a b,k<n→Nr A e (cJ a (itN next (f,f) k)) (cJ b (itN next' (f',f') k))
 p0:∀ k b,0≤cJ b (itN next (f,f) k)
 p1:∀ k b,0≤cJ b (itN next' (f',f') k)
 s0:∀ k b,n≤k→cJ b (itN next (f,f) k)+1≤τ
 s1:∀ k b,n≤k→cJ b (itN next' (f',f') k)+1≤τ*A
theorem smN_sum (next term:Nat→P2→P2) (f:P2) (b:Bool):∀ n,cJ b (smN next term f n)=lX (fun k=>cJ b (term k (itN next f k))) n
 | 0=>by cases b <;> rfl
 | n+1=>by
  have ih:=smN_sum next term f b n
  show cJ b (mT (smN next term f n) _)=lX _ n+_
  rw [← ih]
  cases b <;> rfl
theorem rise_nr {next next' term:Nat→P2→P2} {f f':Int} {n n':Nat} {A e τ:Int} (h:Two next next' f f' n n' A e τ) (ht:vZ term) (a b:Bool) :
  Nr A (n*(e+2)+((n' - n:Nat):Int)*τ+4*τ) (cJ a (mS next term (f,f) n)) (cJ b (mS next' term (f',f') n')):=by
 have hA:=h.hA
 obtain ⟨m,rfl⟩:∃ m,n'=n+m:=⟨n' - n,by have:=h.hn; omega⟩
 rw [show n+m - n=m by omega]
 have h1:=sumP_far (A:=A) (E:=e+2) (τ:=τ) (u:=fun k=>cJ a (term k (itN next (f,f) k))) (u':=fun k=>cJ b (term k (itN next' (f',f') k))) (n:=n) (fun k hk=>term_nr ht hA h.he (h.p1 k) k a b (h.near k a b hk)) m (fun k hk _=>by
  have q1:=f8 ht (h.p1 k) k b
  have q2:=kY ht (h.p1 k) k b
  have q3:=h.s1 k b hk
  exact ⟨by omega,by omega⟩)
 rw [← smN_sum,← smN_sum] at h1
 have x0:=f8 ht (h.p0 n) n true
 have x1:=kY ht (h.p0 n) n true
 have x2:=h.s0 n true (Nat.le_refl _)
 have y0:=f8 ht (h.p1 (n+m)) (n+m) true
 have y1:=kY ht (h.p1 (n+m)) (n+m) true
 have y2:=h.s1 (n+m) true qN
 have hτ:0≤τ:=by have:=h.p0 n true; omega
 have z1:0≤cJ true (term n (itN next (f,f) n))*A:=Int.mul_nonneg x0 qN
 have z2:cJ true (term n (itN next (f,f) n))*A≤τ*A:=Int.mul_le_mul_of_nonneg_right qN qN
 have ea:∃ x,0≤x∧x*A≤2*(τ*A)∧0≤x*A∧cJ a (mS next term (f,f) n)=cJ a (smN next term (f,f) n)+x:=by
  cases a
  ·exact ⟨0,by omega,by omega,by omega,(Int.add_zero _).symm⟩
  ·refine ⟨(term n (itN next (f,f) n)).2*2^far 1,?_,?_,?_,rfl⟩
   ·exact Int.mul_nonneg x0 qE
   ·rw [show (2:Int)^far 1=2 by rfl,Int.mul_right_comm,Int.mul_comm]
    have:(term n (itN next (f,f) n)).2*A≤τ*A:=z2
    omega
   ·rw [show (2:Int)^far 1=2 by rfl,Int.mul_right_comm]
    have:0≤(term n (itN next (f,f) n)).2*A:=z1
    omega
 have eb:∃ x,0≤x∧x≤2*(τ*A)∧cJ b (mS next' term (f',f') (n+m))=cJ b (smN next' term (f',f') (n+m))+x:=by
  cases b
  ·exact ⟨0,by omega,by omega,(Int.add_zero _).symm⟩
  ·refine ⟨(term (n+m) (itN next' (f',f') (n+m))).2*2^far 1,?_,?_,rfl⟩
   ·exact Int.mul_nonneg y0 qE
   ·rw [show (2:Int)^far 1=2 by rfl]
    have:(term (n+m) (itN next' (f',f') (n+m))).2≤τ*A:=by
     have:cJ true (term (n+m) (itN next' (f',f') (n+m)))≤τ*A:=by omega
     exact this
    omega
 obtain ⟨x,hx0,hx1,hx3,hx2⟩:=ea
 obtain ⟨y,hy0,hy1,hy2⟩:=eb
 obtain ⟨g1,g2⟩:=h1
 rw [hx2,hy2]
 have e1:(n*(e+2)+(m:Int)*τ+4*τ)*A=(n*(e+2)+(m:Int)*τ)*A+4*(τ*A):=by grind
 have e2:(cJ a (smN next term (f,f) n)+x)*A=cJ a (smN next term (f,f) n)*A+x*A:=Int.add_mul _ _ _
 exact ⟨by rw [e1,e2]; omega,by rw [e1,e2]; omega⟩
def trn (b:Bool) (next term:Nat→P2→P2) (f:P2) (k:Nat):Int:=if k%2=1 then -cJ (!b) (term k (itN next f k)) else cJ b (term k (itN next f k))
theorem smT_sum (next term:Nat→P2→P2) (f:P2) (b:Bool):∀ n,cJ b (smT next term f n)=lX (trn b next term f) n
 | 0=>by cases b <;> rfl
 | n+1=>by
  have ih:=smT_sum next term f b n
  show _=lX _ n+_
  rw [← ih]
  by_cases h:n%2=1
  ·rw [oY h]
   unfold trn
   rw [if_pos h]
   cases b <;> exact Int.sub_eq_add_neg
  ·rw [lZ h]
   unfold trn
   rw [if_neg h]
   cases b <;> rfl
theorem turn_nr {next next' term:Nat→P2→P2} {f f':Int} {n n':Nat} {A e τ:Int} (h:Two next next' f f' (2*n) (2*n') A e τ) (ht:vZ term) (a b:Bool) :
  Nr A ((2*n:Nat)*(e+2)+((2*n' - 2*n:Nat):Int)*τ+4*τ) (cJ a (lW next term (f,f) n)) (cJ b (lW next' term (f',f') n')):=by
 have hA:=h.hA
 obtain ⟨m,hm⟩:∃ m,2*n'=2*n+m:=⟨2*n' - 2*n,by have:=h.hn; omega⟩
 unfold lW
 rw [hm] at h ⊢
 rw [show 2*n+m - 2*n=m by omega]
 generalize 2*n=n at *
 have h1:=sumP_far (A:=A) (E:=e+2) (τ:=τ) (u:=trn a next term (f,f)) (u':=trn b next' term (f',f')) (n:=n) (fun k hk=>by
  unfold trn
  split
  ·exact (term_nr ht hA h.he (h.p1 k) k (!a) (!b) (h.near k (!a) (!b) hk)).neg
  ·exact term_nr ht hA h.he (h.p1 k) k a b (h.near k a b hk)) m (fun k hk _=>by
  unfold trn
  split
  ·have q1:=f8 ht (h.p1 k) k (!b)
   have q2:=kY ht (h.p1 k) k (!b)
   have q3:=h.s1 k (!b) hk
   exact ⟨by omega,by omega⟩
  ·have q1:=f8 ht (h.p1 k) k b
   have q2:=kY ht (h.p1 k) k b
   have q3:=h.s1 k b hk
   exact ⟨by omega,by omega⟩)
 rw [← smT_sum,← smT_sum] at h1
 have x0:=f8 ht (h.p0 n) n true
 have x1:=kY ht (h.p0 n) n true
 have x2:=h.s0 n true (Nat.le_refl _)
 have y0:=f8 ht (h.p1 (n+m)) (n+m) true
 have y1:=kY ht (h.p1 (n+m)) (n+m) true
 have y2:=h.s1 (n+m) true qN
 have hτ:0≤τ:=by have:=h.p0 n true; omega
 have z1:0≤cJ true (term n (itN next (f,f) n))*A:=Int.mul_nonneg x0 qN
 have z2:cJ true (term n (itN next (f,f) n))*A≤τ*A:=Int.mul_le_mul_of_nonneg_right qN qN
 have ea:∃ x,x*A≤τ*A∧0≤x*A∧cJ a ((smT next term (f,f) n).1,(smT next term (f,f) n).2+(term n (itN next (f,f) n)).2)=cJ a (smT next term (f,f) n)+x:=by
  cases a
  ·exact ⟨0,by omega,by omega,(Int.add_zero _).symm⟩
  ·exact ⟨(term n (itN next (f,f) n)).2,z2,z1,rfl⟩
 have eb:∃ x,0≤x∧x≤τ*A∧cJ b ((smT next' term (f',f') (n+m)).1,(smT next' term (f',f') (n+m)).2+(term (n+m) (itN next' (f',f') (n+m))).2)=cJ b (smT next' term (f',f') (n+m))+x:=by
  cases b
  ·exact ⟨0,by omega,by omega,(Int.add_zero _).symm⟩
  ·exact ⟨(term (n+m) (itN next' (f',f') (n+m))).2,y0,Int.le_trans y1 y2,rfl⟩
 obtain ⟨x,hx1,hx3,hx2⟩:=ea
 obtain ⟨y,hy0,hy1,hy2⟩:=eb
 obtain ⟨g1,g2⟩:=h1
 rw [hx2,hy2]
 have e1:(n*(e+2)+(m:Int)*τ+4*τ)*A=(n*(e+2)+(m:Int)*τ)*A+4*(τ*A):=by grind
 have e2:(cJ a (smT next term (f,f) n)+x)*A=cJ a (smT next term (f,f) n)*A+x*A:=Int.add_mul _ _ _
 exact ⟨by rw [e1,e2]; omega,by rw [e1,e2]; omega⟩
structure Shr (next:Nat→P2→P2) (T s:Int) (c:Nat→Int) (G:Int) (k0:Nat):Prop extends Nx next T s c where
 a0:T≤2*(c 0*2^far s)
 a1:∀ k,1≤k→T*2≤c k*2^far s
 ag:∀ k,k0≤k→T*G≤c k*2^far s
 hG:2≤G
theorem Shr.posD {next:Nat→P2→P2} {T s:Int} {c:Nat→Int} {G:Int} {k0:Nat} (h:Shr next T s c G k0) (k:Nat):0<c k*2^far s:=Int.mul_pos (by have:=h.pos k; omega) (Int.pow_pos qE)
theorem Shr.le {next:Nat→P2→P2} {T s:Int} {c:Nat→Int} {G:Int} {k0:Nat} (h:Shr next T s c G k0) {f:Int} (hf:0≤f):∀ k b,cJ b (itN next (f,f) k)≤2*f+4:=by
 intro k b
 have hnn:=h.toNx.nonneg (f:=(f,f)) (fun b=>by cases b <;> exact hf)
 have hsq:=h.toNx.sq (f,f) b
 rcases k with _ | k
 ·have:cJ b (itN next (f,f) 0)=f:=by cases b <;> rfl
  rw [this]; omega
 have h1:cJ b (itN next (f,f) 1)≤2*f+1:=by
  have e0:cJ b (itN next (f,f) 0)=f:=by cases b <;> rfl
  have e1:=(hsq 0).1
  simp only [e0] at e1
  have e2:=Int.mul_le_mul_of_nonneg_left h.a0 hf
  have e3:(c 0*2^far s)*(cJ b (itN next (f,f) (0+1)) - 1)≤(c 0*2^far s)*(2*f):=by grind
  have:=Int.le_of_mul_le_mul_left e3 (h.posD 0)
  show cJ b (itN next (f,f) (0+1))≤_
  omega
 have h2:=t9 (p:=fun k=>cJ b (itN next (f,f) k)) qE h.posD hsq (fun k=>hnn k b) 1 h.a1 k
 rw [Nat.add_comm] at h2
 rcases Int.lt_or_le (cJ b (itN next (f,f) (k+1))) 3 with h3 | h3
 ·omega
 ·have h4:(1:Int)≤2^k:=Int.pow_pos qE
  have h5:(cJ b (itN next (f,f) (k+1)) - 2)*1≤(cJ b (itN next (f,f) (k+1)) - 2)*2^k:=Int.mul_le_mul_of_nonneg_left h4 qN
  omega
theorem Shr.tail {next:Nat→P2→P2} {T s:Int} {c:Nat→Int} {G:Int} {k0:Nat} (h:Shr next T s c G k0) {f:Int} (hf:0≤f) {n:Nat} (hn:k0≤n) {τ:Int} (hτ:3≤τ) (ht:2*f+4≤(τ - 3)*G^(n - k0)):∀ k b,n≤k→cJ b (itN next (f,f) k)+1≤τ:=by
 intro k b hk
 have hnn:=h.toNx.nonneg (f:=(f,f)) (fun b=>by cases b <;> exact hf)
 have hsq:=h.toNx.sq (f,f) b
 obtain ⟨j,rfl⟩:∃ j,k=k0+j:=⟨k - k0,by omega⟩
 have h1:=t9 (p:=fun k=>cJ b (itN next (f,f) k)) h.hG h.posD hsq (fun k=>hnn k b) k0 h.ag j
 have h2:=h.le hf k0 b
 have hG:=h.hG
 have h3:G^(n - k0)≤G^j:=by
  obtain ⟨i,rfl⟩:∃ i,j=(n - k0)+i:=⟨j - (n - k0),by omega⟩
  rw [Int.pow_add]
  have e1:(1:Int)≤G^i:=Int.pow_pos qN
  have e2:0≤G^(n - k0):=Int.pow_nonneg qN
  have:=Int.mul_le_mul_of_nonneg_left e1 e2
  omega
 have h4:(τ - 3)*G^(n - k0)≤(τ - 3)*G^j:=Int.mul_le_mul_of_nonneg_left h3 qN
 have h5:(cJ b (itN next (f,f) (k0+j)) - 2)*G^j≤(τ - 3)*G^j:=by
  omega
 have:=Int.le_of_mul_le_mul_right h5 (Int.pow_pos qN)
 omega
theorem Two.make {next next':Nat→P2→P2} {T T' s s':Int} {c:Nat→Int} {G:Int} {k0:Nat} (h:Shr next T s c G k0) (h':Shr next' T' s' c G k0) {A B e0 Et E2 f f' τ:Int} {n n':Nat} (hA:1≤A) (hB:1≤B) (hs:(2:Int)^far s'=2^far s*B)
  (hf:0≤f) (hf':0≤f') (hff:Nr A e0 f f') (hTT:Nr B Et T T') (he0:0≤e0) (hE2:0≤E2) (hEt:0≤Et) (hα:e0=0∨T≤c 0*2^far s) (hX:(2*f'+4)*Et≤E2*(A*2^far s))
  (hn:n≤n') (hk0:k0≤n) (hτ:3≤τ) (ht:2*f+4≤(τ - 3)*G^(n - k0)) (ht':2*f'+4≤(τ*A - 3)*G^(n - k0)):Two next next' f f' n n' A (e0+n*(E2+2)) τ:=by
 have nn:=h.toNx.nonneg (f:=(f,f)) (fun b=>by cases b <;> exact hf)
 have nn':=h'.toNx.nonneg (f:=(f',f')) (fun b=>by cases b <;> exact hf')
 have hτA:3≤τ*A:=by
  have:=Int.mul_le_mul_of_nonneg_left hA (show 0≤τ by omega)
  omega
 have hnE:∀ k:Nat,0≤(k:Int)*(E2+2):=fun k=>Int.mul_nonneg (Int.natCast_nonneg k) qN
 refine ⟨hA,by have:=hnE n; omega,hn,fun k a b hk=>?_,nn,nn',h.tail hf hk0 hτ ht,h'.tail hf' hk0 hτA ht'⟩
 have hfa:cJ a (itN next (f,f) 0)=f:=by cases a <;> rfl
 have hfb:cJ b (itN next' (f',f') 0)=f':=by cases b <;> rfl
 have hsq':=h'.toNx.sq (f',f') b
 have hsq2:Sqn (fun k=>c k*2^far s*B) T' (fun k=>cJ b (itN next' (f',f') k)):=fun k=>by
  have:=hsq' k
  simp only [hs,← Int.mul_assoc] at this
  exact this
 have key:=seq_nr (A:=A) (B:=B) (t:=T) (t':=T') (Et:=Et) (E2:=E2) (e0:=e0) (D:=fun k=>c k*2^far s) (p:=fun k=>cJ a (itN next (f,f) k)) (p':=fun k=>cJ b (itN next' (f',f') k)) hA hB h.posD (h.toNx.sq (f,f) a) hsq2 h.t0 (fun k=>nn' k b) he0 hE2
  (by rw [hfa,hfb]; exact hff) hTT (by
   rcases hα with h1 | h1
   ·rw [h1]; simp
   ·exact Int.mul_le_mul_of_nonneg_left h1 he0) (fun k hk=>by
   have h1:=h.a1 k hk
   have h2:=h.t0
   omega) (fun k=>by
   have h1:=h'.le hf' k b
   have h2:=nn' k b
   have h3:cJ b (itN next' (f',f') k)*Et≤(2*f'+4)*Et:=Int.mul_le_mul_of_nonneg_right h1 hEt
   have h4:A*2^far s≤A*(c k*2^far s):=by
    refine Int.mul_le_mul_of_nonneg_left ?_ qN
    have h5:(1:Int)*2^far s≤c k*2^far s:=Int.mul_le_mul_of_nonneg_right (h.pos k) (Int.le_of_lt (Int.pow_pos qE))
    omega
   have h5:=Int.mul_le_mul_of_nonneg_left h4 hE2
   omega) k
 refine key.mono qN ?_
 have h1:(k:Int)*(E2+2)≤n*(E2+2):=Int.mul_le_mul_of_nonneg_right qN qN
 omega
theorem jB {q:Int} {d:Nat} (h0:0≤q) (h1:q+d≤4000):(2:Int)^far (q+d)=2^far q*2^d:=by
 rw [show far (q+d)=far q+d by unfold far; omega,Int.pow_add]
theorem jV {q:Int} (h0:0≤q) (h1:q≤4000):(2:Int)^far (2*q)=2^far q*2^far q:=by
 rw [show far (2*q)=far q+far q by unfold far; omega,Int.pow_add]
theorem cR (q:Int):(1:Int)≤2^far q:=Int.pow_pos qE
theorem cU (d:Nat):(1:Int)≤2^d:=Int.pow_pos qE
theorem sq_nr {A e F t t':Int} (hA:1≤A) (he:0≤e) (h:Nr A e t t') (h0:0≤t) (h1:t≤2*F) (h0':0≤t') (h1':t'≤2*(F*A)):Nr (A*A) (4*e*F) (t*t) (t'*t'):=by
 obtain ⟨a1,a2⟩:=h
 have hs:0≤t*A+t':=by have:=Int.mul_nonneg h0 (show 0≤A by omega); omega
 have hs2:t*A+t'≤4*(F*A):=by
  have:=Int.mul_le_mul_of_nonneg_right h1 (show 0≤A by omega)
  rw [Int.mul_assoc] at this
  omega
 have e1:=Int.mul_le_mul_of_nonneg_right a1 hs
 have e2:=Int.mul_le_mul_of_nonneg_right a2 hs
 have e3:=Int.mul_le_mul_of_nonneg_left hs2 (show 0≤e*A from Int.mul_nonneg he qN)
 exact ⟨by grind,by grind⟩
theorem shrE {t q:Int} (h0:0≤t) (h1:t≤2^far q):Shr (sO t q) t q (fun k=>(k:Int)+1) 16 15:=by
 have hF:=cR q
 have key:∀ (k m:Nat),m≤k+1→t*m≤((k:Int)+1)*2^far q:=fun k m hm=>by
  have e1:t*m≤2^far q*m:=Int.mul_le_mul_of_nonneg_right h1 qN
  have e2:(2:Int)^far q*m≤2^far q*((k:Int)+1):=Int.mul_le_mul_of_nonneg_left qN qN
  have e3:(2:Int)^far q*((k:Int)+1)=((k:Int)+1)*2^far q:=Int.mul_comm _ _
  omega
 refine ⟨⟨fun k p=>rfl,fun k=>by omega,h0⟩,?_,fun k hk=>key k 2 qN,fun k hk=>key k 16 qN,by decide⟩
 rw [show ((0:Nat):Int)+1=1 by rfl,Int.one_mul]; omega
theorem shrA {t q G:Int} (hq:0≤q∧q≤4000) (hG:2≤G) (h0:0≤t) (h1:t*t*G≤2^far q*2^far q):Shr (dP t q) (t*t) (2*q) (fun _=>1) G 0:=by
 have hT:0≤t*t:=Int.mul_nonneg h0 h0
 have e1:=Int.mul_le_mul_of_nonneg_left hG hT
 have e2:=jV hq.1 hq.2
 exact ⟨⟨fun k p=>rfl,fun k=>by omega,hT⟩,by omega,fun k hk=>by omega,fun k hk=>by omega,hG⟩
theorem shrS {t q:Int} (hq:0≤q∧q≤4000) (h0:0≤t) (h1:t*t*2≤5*(2^far q*2^far q)):Shr (rE t q) (t*t) (2*q) (fun k=>2*((k+1:Nat):Int)*(2*((k+1:Nat):Int)+1)) 32 5:=by
 have hT:0≤t*t:=Int.mul_nonneg h0 h0
 have hF:=Int.mul_nonneg (Int.le_of_lt (cR q)) (Int.le_of_lt (cR q))
 have e2:=jV hq.1 hq.2
 have key:∀ (k:Nat) (m:Int),0≤m→m*5≤2*(2*((k+1:Nat):Int)*(2*((k+1:Nat):Int)+1))→t*t*m≤2*((k+1:Nat):Int)*(2*((k+1:Nat):Int)+1)*2^far (2*q):=fun k m hm h=>by
  rw [e2]
  generalize 2*((k+1:Nat):Int)*(2*((k+1:Nat):Int)+1)=C at *
  generalize (2:Int)^far q*2^far q=X at *
  have a1:=Int.mul_le_mul_of_nonneg_right h1 hm
  have a2:=Int.mul_le_mul_of_nonneg_right h hF
  grind
 have big:∀ (k j:Nat),j≤k→2*((j+1:Nat):Int)*(2*((j+1:Nat):Int)+1)≤2*((k+1:Nat):Int)*(2*((k+1:Nat):Int)+1):=fun k j h=>Int.mul_le_mul qN qN qN qN
 refine ⟨⟨fun k p=>rfl,fun k=>?_,hT⟩,?_,fun k hk=>key k 2 qE ?_,fun k hk=>key k 32 qE ?_,by decide⟩
 ·have:=big k 0 qN
  rw [show 2*((0+1:Nat):Int)*(2*((0+1:Nat):Int)+1)=6 by rfl] at this
  omega
 ·have:=key 0 1 qE qE
  omega
 ·have:=big k 1 qN
  rw [show 2*((1+1:Nat):Int)*(2*((1+1:Nat):Int)+1)=20 by rfl] at this
  omega
 ·have:=big k 5 qN
  rw [show 2*((5+1:Nat):Int)*(2*((5+1:Nat):Int)+1)=156 by rfl] at this
  omega
theorem shrC {t q:Int} (hq:0≤q∧q≤4000) (h0:0≤t) (h1:t*t*2≤5*(2^far q*2^far q)):Shr (gQ t q) (t*t) (2*q) (fun k=>(2*((k+1:Nat):Int) - 1)*2*((k+1:Nat):Int)) 32 5:=by
 have hT:0≤t*t:=Int.mul_nonneg h0 h0
 have hF:=Int.mul_nonneg (Int.le_of_lt (cR q)) (Int.le_of_lt (cR q))
 have e2:=jV hq.1 hq.2
 have key:∀ (k:Nat) (m:Int),0≤m→m*5≤2*((2*((k+1:Nat):Int) - 1)*2*((k+1:Nat):Int))→t*t*m≤(2*((k+1:Nat):Int) - 1)*2*((k+1:Nat):Int)*2^far (2*q):=fun k m hm h=>by
  rw [e2]
  generalize (2*((k+1:Nat):Int) - 1)*2*((k+1:Nat):Int)=C at *
  generalize (2:Int)^far q*2^far q=X at *
  have a1:=Int.mul_le_mul_of_nonneg_right h1 hm
  have a2:=Int.mul_le_mul_of_nonneg_right h hF
  grind
 have big:∀ (k j:Nat),j≤k→(2*((j+1:Nat):Int) - 1)*2*((j+1:Nat):Int)≤(2*((k+1:Nat):Int) - 1)*2*((k+1:Nat):Int):=fun k j h=>Int.mul_le_mul qN qN qN qN
 refine ⟨⟨fun k p=>rfl,fun k=>?_,hT⟩,?_,fun k hk=>key k 2 qE ?_,fun k hk=>key k 32 qE ?_,by decide⟩
 ·have:=big k 0 qN
  rw [show (2*((0+1:Nat):Int) - 1)*2*((0+1:Nat):Int)=2 by rfl] at this
  omega
 ·rw [e2,show (2*((0+1:Nat):Int) - 1)*2*((0+1:Nat):Int)=2 by rfl]
  omega
 ·have:=big k 1 qN
  rw [show (2*((1+1:Nat):Int) - 1)*2*((1+1:Nat):Int)=12 by rfl] at this
  omega
 ·have:=big k 5 qN
  rw [show (2*((5+1:Nat):Int) - 1)*2*((5+1:Nat):Int)=132 by rfl] at this
  omega
theorem vE {n n':Nat} {e τ M:Int} (hn:n≤400∧n'≤400) (he:0≤e) (hτ:0≤τ) (hM:400*(e+2)+404*τ≤M):n*(e+2)+((n' - n:Nat):Int)*τ+4*τ≤M:=by
 have h1:(n:Int)*(e+2)≤400*(e+2):=Int.mul_le_mul_of_nonneg_right qN qN
 have h2:((n' - n:Nat):Int)*τ≤400*τ:=Int.mul_le_mul_of_nonneg_right qN hτ
 omega
theorem n_le {n:Nat} {x y:Int} (hn:n≤400) (hx:0≤x) (h:400*x≤y):(n:Int)*x≤y:=Int.le_trans (Int.mul_le_mul_of_nonneg_right qN hx) h
theorem tailA {F A τ σ P f f':Int} (hA:1≤A) (hσ:1≤σ) (hP:F≤σ*P) (hτ:16*σ≤τ) (hf:f≤2*F) (hf':f'≤2*(F*A)) (hP4:1≤P):2*f+4≤(τ - 3)*P∧2*f'+4≤(τ*A - 3)*P:=by
 have h1:(13*σ)*P≤(τ - 3)*P:=Int.mul_le_mul_of_nonneg_right qN qN
 have h2:16*σ*A≤τ*A:=Int.mul_le_mul_of_nonneg_right hτ qN
 have h6:σ≤σ*A:=by
  have:=Int.mul_le_mul_of_nonneg_left hA (show 0≤σ by omega)
  omega
 have h7:16*σ*A=16*(σ*A):=Int.mul_assoc _ _ _
 have h3:(13*(σ*A))*P≤(τ*A - 3)*P:=Int.mul_le_mul_of_nonneg_right qN qN
 have h4:F*A≤σ*P*A:=Int.mul_le_mul_of_nonneg_right hP qN
 have h5:(1:Int)≤σ*P:=by
  have:=Int.mul_le_mul hσ hP4 qE qN
  omega
 have h8:(1:Int)≤σ*P*A:=by
  have:=Int.mul_le_mul h5 hA qE qN
  omega
 have h9:13*(σ*A)*P=13*(σ*P*A):=by grind
 have h10:13*σ*P=13*(σ*P):=Int.mul_assoc _ _ _
 exact ⟨by omega,by omega⟩
theorem bW {a b:Nat} (h:a≤b):(2:Int)^a≤2^b:=by
 have:=Int.ofNat_le.mpr (Nat.pow_le_pow_right (show 0<2 by decide) h)
 simpa using this
theorem powE {q:Int} (h:20≤q) (h1:q≤1100):(2:Int)^far q≤2^23*16^(nE q - 15):=by
 rw [show (16:Int)=2^4 by rfl,← Int.pow_mul,← Int.pow_add]
 exact bW (by unfold far nE; omega)
theorem powL {q:Int} (h:0≤q) (h1:q≤1100):(2:Int)^far q≤1*8^(nL q - 0):=by
 rw [Int.one_mul,show (8:Int)=2^3 by rfl,← Int.pow_mul]
 exact bW (by unfold far nL; omega)
theorem powP {q:Int} (h:0≤q) (h1:q≤1100):(2:Int)^far q≤1*24^(2*nP q - 0):=by
 rw [Int.one_mul,Nat.sub_zero,Int.pow_mul,show (24:Int)^2=576 by rfl]
 have h2:(512:Int)^nP q≤576^nP q:=by
  have:=Int.ofNat_le.mpr (Nat.pow_le_pow_left (show 512≤576 by decide) (nP q))
  simpa using this
 refine Int.le_trans ?_ h2
 rw [show (512:Int)=2^9 by rfl,← Int.pow_mul]
 exact bW (by unfold far nP; omega)
theorem powW {q:Int} (h:0≤q) (h1:q≤1100):(2:Int)^far q≤1*32^(2*nW q - 5):=by
 rw [Int.one_mul,show (32:Int)=2^5 by rfl,← Int.pow_mul]
 exact bW (by unfold far nW; omega)
theorem fM {q:Int} (h:20≤q) (h1:q≤1100):(1048576:Int)≤2^far q:=by
 rw [show (1048576:Int)=2^20 by rfl]
 exact bW (by unfold far; omega)
theorem exp_nr {q:Int} {d:Nat} {t t' e:Int} (hq:20≤q) (hd:q+d≤1100) (h0:0≤t) (h1:t≤2^far q) (h0':0≤t') (h1':t'≤2^far (q+d)) (he:0≤e) (h:Nr (2^d) e t t') (a b:Bool) :
  Nr (2^d) (4194304*e+137438953472) (cJ a (rL t q (nE q))) (cJ b (rL t' (q+d) (nE (q+d)))):=by
 have hA:=cU d
 have hF:=fM hq qN
 have hFA:=jB (d:=d) (show 0≤q by omega) qN
 have hn:nE q≤400∧nE (q+d)≤400:=by unfold nE; omega
 have hP4:(1:Int)≤16^(nE q - 15):=Int.pow_pos qE
 have ht:=tailA (F:=2^far q) (τ:=268435456) (σ:=2^23) (f:=1*2^far q) (f':=1*2^far (q+d)) hA qE (powE hq qN) qE qN (by rw [hFA]; have:=Int.mul_nonneg (show (0:Int)≤2^far q by omega) (show (0:Int)≤2^d by omega); omega) hP4
 have hX:(2*(1*2^far (q+d))+4)*e≤3*e*(2^d*2^far q):=by
  rw [hFA]
  have e1:4≤(2:Int)^far q*2^d:=by
   have:=Int.mul_le_mul_of_nonneg_left hA (show (0:Int)≤2^far q by omega)
   omega
  have e2:(2*(1*((2:Int)^far q*2^d))+4)*e≤3*(2^far q*2^d)*e:=Int.mul_le_mul_of_nonneg_right qN he
  have e3:3*((2:Int)^far q*2^d)*e=3*e*(2^d*2^far q):=by grind
  omega
 have T:=Two.make (e0:=0) (E2:=3*e) (f:=1*2^far q) (f':=1*2^far (q+d)) (τ:=268435456) (n:=nE q) (n':=nE (q+d)) (shrE h0 h1) (shrE h0' h1') hA hA hFA qN (by have:=cR (q+d); omega) (by rw [hFA,Int.one_mul,Int.one_mul]; exact Nr.exact _ _) h qE qN he (.inl rfl) hX (by unfold nE; omega) (by unfold nE; omega) qE ht.1 ht.2
 have hne:=n_le (x:=3*e+2) (y:=1200*e+800) hn.1 qN qN
 have hn0:0≤(nE q:Int)*(3*e+2):=Int.mul_nonneg qN qN
 exact (rise_nr T (.inl rfl) a b).mono qN (vE hn qN qE qN)
theorem sqX {F A e g f':Int} (hF:4≤F) (hA:1≤A) (he:0≤e) (hg:0≤g) (hf:2*f'≤g*(F*A)):(2*f'+4)*(4*e*F)≤(4*(g+1))*e*(A*(F*F)):=by
 have e1:4≤F*A:=by
  have:=Int.mul_le_mul_of_nonneg_left hA (show 0≤F by omega)
  omega
 have e0:(g+1)*(F*A)=g*(F*A)+F*A:=by rw [Int.add_mul,Int.one_mul]
 have e2:(2*f'+4)*(4*e*F)≤(g+1)*(F*A)*(4*e*F):=Int.mul_le_mul_of_nonneg_right qN (Int.mul_nonneg qN qN)
 have e3:(g+1)*(F*A)*(4*e*F)=(4*(g+1))*e*(A*(F*F)):=by grind
 omega
theorem two_A {q:Int} {d:Nat} {G:Int} {t t' e:Int} {n n':Nat} (hG:2≤G) (hq:20≤q) (hd:q+d≤1100) (h0:0≤t) (h1:t≤2^far q) (h2:t*t*G≤2^far q*2^far q) (h0':0≤t') (h1':t'≤2^far (q+d)) (h2':t'*t'*G≤2^far (q+d)*2^far (q+d))
  (he:0≤e) (h:Nr (2^d) e t t') (hn:n≤n') (hP:(2:Int)^far q≤1*G^(n - 0)):Two (dP t q) (dP t' (q+d)) t t' n n' (2^d) (e+n*(12*e+2)) 16:=by
 have hA:=cU d
 have hF:=fM hq qN
 have hFA:=jB (d:=d) (show 0≤q by omega) qN
 have hP4:(1:Int)≤G^(n - 0):=Int.pow_pos qN
 rw [hFA] at h1'
 have ht:=tailA (F:=2^far q) (τ:=16) (σ:=1) (f:=t) (f':=t') hA qE hP qE qN qN hP4
 have hff:=jV (q:=q) qN qN
 have hff':=jV (q:=q+d) qN qN
 have hB:(2:Int)^far (2*(q+d))=2^far (2*q)*(2^d*2^d):=by
  rw [hff',hff,hFA]; grind
 have hX:=sqX (F:=2^far q) (A:=2^d) (e:=e) (g:=2) (f':=t') qN hA he qE qN
 refine Two.make (e0:=e) (E2:=12*e) (Et:=4*e*2^far q) (shrA ⟨by omega,by omega⟩ hG h0 h2) (shrA ⟨by omega,by omega⟩ hG h0' h2') hA (by have:=Int.mul_le_mul_of_nonneg_left hA (show (0:Int)≤2^d by omega); omega) hB h0 h0' h (sq_nr hA he h h0 qN h0' qN) he qN (Int.mul_nonneg qN qN) (.inr ?_) (by rw [hff]; exact hX) hn (Nat.zero_le _) qE ht.1 ht.2
 rw [hff,Int.one_mul]
 have:=Int.mul_le_mul_of_nonneg_left hG (Int.mul_nonneg h0 h0)
 have h3:=Int.mul_nonneg h0 h0
 omega
theorem atanh_nr {q:Int} {d:Nat} {t t' e:Int} (hq:20≤q) (hd:q+d≤1100) (h0:0≤t) (h1:t≤2^far q) (h2:t*t*8≤2^far q*2^far q) (h0':0≤t') (h1':t'≤2^far (q+d)) (h2':t'*t'*8≤2^far (q+d)*2^far (q+d)) (he:0≤e) (h:Nr (2^d) e t t') (a b:Bool) :
  Nr (2^d) (4194304*e+137438953472) (cJ a (dZ t q (nL q))) (cJ b (dZ t' (q+d) (nL (q+d)))):=by
 have hA:=cU d
 have hn:nL q≤400∧nL (q+d)≤400:=by unfold nL; omega
 have T:=two_A (G:=8) (n:=nL q) (n':=nL (q+d)) qE hq hd h0 h1 h2 h0' h1' h2' he h (by unfold nL; omega) (powL qN qN)
 have hne:=n_le (x:=12*e+2) (y:=4800*e+800) hn.1 qN qN
 have hn0:0≤(nL q:Int)*(12*e+2):=Int.mul_nonneg qN qN
 exact (rise_nr T (.inr rfl) a b).mono qN (vE hn qN qE qN)
theorem atan_nr {q:Int} {d:Nat} {t t' e:Int} (hq:20≤q) (hd:q+d≤1100) (h0:0≤t) (h1:t≤2^far q) (h2:t*t*24≤2^far q*2^far q) (h0':0≤t') (h1':t'≤2^far (q+d)) (h2':t'*t'*24≤2^far (q+d)*2^far (q+d)) (he:0≤e) (h:Nr (2^d) e t t') (a b:Bool) :
  Nr (2^d) (4194304*e+137438953472) (cJ a (fF t q (nP q))) (cJ b (fF t' (q+d) (nP (q+d)))):=by
 have hA:=cU d
 have hn:2*nP q≤400∧2*nP (q+d)≤400:=by unfold nP; omega
 have T:=two_A (G:=24) (n:=2*nP q) (n':=2*nP (q+d)) qE hq hd h0 h1 h2 h0' h1' h2' he h (by unfold nP; omega) (powP qN qN)
 have hne:=n_le (x:=12*e+2) (y:=4800*e+800) hn.1 qN qN
 have hn0:0≤((2*nP q:Nat):Int)*(12*e+2):=Int.mul_nonneg qN qN
 exact (turn_nr T (.inr rfl) a b).mono qN (vE hn qN qE qN)
theorem sin_nr {q:Int} {d:Nat} {t t' e:Int} (hq:20≤q) (hd:q+d≤1100) (h0:0≤t) (h1:t≤2*2^far q) (h2:t*t*2≤5*(2^far q*2^far q)) (h0':0≤t') (h1':t'≤2*2^far (q+d)) (h2':t'*t'*2≤5*(2^far (q+d)*2^far (q+d))) (he:0≤e) (h:Nr (2^d) e t t') (a b:Bool) :
  Nr (2^d) (4194304*e+137438953472) (cJ a (oZ t q (nW q))) (cJ b (oZ t' (q+d) (nW (q+d)))):=by
 have hA:=cU d
 have hF:=fM hq qN
 have hFA:=jB (d:=d) (show 0≤q by omega) qN
 have hn:2*nW q≤400∧2*nW (q+d)≤400:=by unfold nW; omega
 have hP4:(1:Int)≤32^(2*nW q - 5):=Int.pow_pos qE
 rw [hFA] at h1'
 have ht:=tailA (F:=2^far q) (τ:=16) (σ:=1) (f:=t) (f':=t') hA qE (powW qN qN) qE qN qN hP4
 have hff:=jV (q:=q) qN qN
 have hff':=jV (q:=q+d) qN qN
 have hB:(2:Int)^far (2*(q+d))=2^far (2*q)*(2^d*2^d):=by
  rw [hff',hff,hFA]; grind
 have hX:=sqX (F:=2^far q) (A:=2^d) (e:=e) (g:=4) (f':=t') qN hA he qE qN
 have T:=Two.make (e0:=e) (E2:=20*e) (Et:=4*e*2^far q) (n:=2*nW q) (n':=2*nW (q+d)) (shrS (q:=q) ⟨by omega,by omega⟩ h0 h2) (shrS (q:=q+d) ⟨by omega,by omega⟩ h0' h2') hA (by have:=Int.mul_le_mul_of_nonneg_left hA (show (0:Int)≤2^d by omega); omega) hB h0 h0' h (sq_nr hA he h h0 qN h0' qN) he qN (Int.mul_nonneg qN qN) (.inr (by
  have h3:=Int.mul_nonneg h0 h0
  have h4:=Int.mul_nonneg (show (0:Int)≤2^far q by omega) (show (0:Int)≤2^far q by omega)
  rw [hff,show 2*((0+1:Nat):Int)*(2*((0+1:Nat):Int)+1)=6 by rfl]
  omega)) (by rw [hff]; exact hX) (by unfold nW; omega) (by unfold nW; omega) qE ht.1 ht.2
 have hne:=n_le (x:=20*e+2) (y:=8000*e+800) hn.1 qN qN
 have hn0:0≤((2*nW q:Nat):Int)*(20*e+2):=Int.mul_nonneg qN qN
 exact (turn_nr T (.inl rfl) a b).mono qN (vE hn qN qE qN)
theorem cos_nr {q:Int} {d:Nat} {t t' e:Int} (hq:20≤q) (hd:q+d≤1100) (h0:0≤t) (h1:t≤2*2^far q) (h2:t*t*2≤5*(2^far q*2^far q)) (h0':0≤t') (h1':t'≤2*2^far (q+d)) (h2':t'*t'*2≤5*(2^far (q+d)*2^far (q+d))) (he:0≤e) (h:Nr (2^d) e t t') (a b:Bool) :
  Nr (2^d) (4194304*e+137438953472) (cJ a (lS t q (nW q))) (cJ b (lS t' (q+d) (nW (q+d)))):=by
 have hA:=cU d
 have hF:=fM hq qN
 have hFA:=jB (d:=d) (show 0≤q by omega) qN
 have hn:2*nW q≤400∧2*nW (q+d)≤400:=by unfold nW; omega
 have hP4:(1:Int)≤32^(2*nW q - 5):=Int.pow_pos qE
 have hFn:=Int.mul_nonneg (show (0:Int)≤2^far q by omega) (show (0:Int)≤2^d by omega)
 rw [hFA] at h1'
 have ht:=tailA (F:=2^far q) (τ:=16) (σ:=1) (f:=1*2^far q) (f':=1*2^far (q+d)) hA qE (powW qN qN) qE qN (by rw [hFA]; omega) hP4
 have hff:=jV (q:=q) qN qN
 have hff':=jV (q:=q+d) qN qN
 have hB:(2:Int)^far (2*(q+d))=2^far (2*q)*(2^d*2^d):=by
  rw [hff',hff,hFA]; grind
 have hX:=sqX (F:=2^far q) (A:=2^d) (e:=e) (g:=2) (f':=1*2^far (q+d)) qN hA he qE (by rw [hFA]; omega)
 have T:=Two.make (e0:=0) (E2:=12*e) (Et:=4*e*2^far q) (f:=1*2^far q) (f':=1*2^far (q+d)) (n:=2*nW q) (n':=2*nW (q+d)) (shrC (q:=q) ⟨by omega,by omega⟩ h0 h2) (shrC (q:=q+d) ⟨by omega,by omega⟩ h0' h2') hA (by have:=Int.mul_le_mul_of_nonneg_left hA (show (0:Int)≤2^d by omega); omega) hB qN (by rw [hFA]; omega) (by rw [hFA,Int.one_mul,Int.one_mul]; exact Nr.exact _ _) (sq_nr hA he h h0 qN h0' qN) qE qN (Int.mul_nonneg qN qN) (.inl rfl) (by rw [hff]; exact hX) (by unfold nW; omega) (by unfold nW; omega) qE ht.1 ht.2
 have hne:=n_le (x:=12*e+2) (y:=4800*e+800) hn.1 qN qN
 have hn0:0≤((2*nW q:Nat):Int)*(12*e+2):=Int.mul_nonneg qN qN
 exact (turn_nr T (.inl rfl) a b).mono qN (vE hn qN qE qN)
def lD:List Value→Dat
 | []=>.one undef
 | [v]=>.one v
 | v::u::r=>.cat (.one v) (lD (u::r))
theorem lQ:∀ {vs:List Value},vs≠[]→(lD vs).cells=vs.length
 | [],h=>absurd rfl h
 | [_],_=>rfl
 | _::u::r,_=>by
  show 1+(lD (u::r)).cells=_
  rw [lQ qP]; simp; omega
theorem o9 {S:Nat→Prop} {w:World}:∀ {vs:List Value} {cs:List Value},vs≠[]→(RdC S w (lD vs) cs↔cs=vs∧∀ v,v∈vs→v.oneCell'=true)
 | [],_,h=>absurd rfl h
 | [v],cs,_=>by
  show cs=[v]∧v.oneCell'=true↔_
  simp
 | v::u::r,cs,_=>by
  constructor
  ·rintro ⟨c1,c2,rfl,⟨rfl,h1⟩,h2⟩
   obtain ⟨rfl,h3⟩:=(o9 qP).1 h2
   exact ⟨rfl,fun x hx=>by
    rcases List.mem_cons.1 hx with rfl | hx
    ·exact h1
    ·exact h3 x hx⟩
  ·rintro ⟨rfl,h⟩
   exact ⟨[v],u::r,rfl,⟨rfl,h v (List.mem_cons_self ..)⟩,(o9 qP).2 ⟨rfl,fun x hx=>h x (List.mem_cons_of_mem _ hx)⟩⟩
theorem arrC_pack {vs cs:List Value} (h:2≤vs.length):oA (lD vs) cs=.agg cs.toArray:=by
 match vs,h with
 | _::_::_,_=>rfl
theorem Rd.arr {S:Nat→Prop} {w:World} {u:Value} {vs:List Value} (h:Rd S w u (lD vs)) (hl:2≤vs.length):u=.agg vs.toArray∧∀ v,v∈vs→v.oneCell'=true:=by
 obtain ⟨cs,h1,h2⟩:=h
 obtain ⟨rfl,h3⟩:=(o9 (by intro e; rw [e] at hl; simp at hl)).1 h1
 exact ⟨by rw [h2,arrC_pack hl],h3⟩
theorem Rd.mk_arr {S:Nat→Prop} {w:World} {vs:List Value} (hl:2≤vs.length) (h:∀ v,v∈vs→v.oneCell'=true):Rd S w (.agg vs.toArray) (lD vs) :=
 ⟨vs,(o9 (by intro e; rw [e] at hl; simp at hl)).2 ⟨rfl,h⟩,(arrC_pack hl).symm⟩
class TArr (P:Program) (t:TypeId) (n:outParam Nat) (e:outParam TypeId) (z:outParam Value):Prop where
 und:P.underlying t=some (.array n e)
 one:(P.info? e).map (·.size)=some 1
 info:(P.info? t).map (fun i=>(i.zero,i.size))=some (some (.agg (List.replicate n z).toArray),n)
 cell:z.oneCell'=true
theorem TArr.agg {P:Program} {t:TypeId} {n:Nat} {e:TypeId} {z:Value} (ht:TArr P t n e z):oL P t n:=by
 refine ⟨⟨_,ht.und,rfl⟩,?_⟩
 have h:=ht.info
 cases hi:P.info? t with
 | none=>rw [hi] at h; simp at h
 | some i=>rw [hi] at h; simp at h ⊢; exact h.2
theorem ld_arr {P:Program} {t:TypeId} {n:Nat} {e:TypeId} {z:Value} (ht:TArr P t n e z) {vs:List Value} (hn:vs.length=n) (h2:2≤n):gX P t (lD vs):=by
 match vs,hn,h2 with
 | v::u::r,hn,_ =>
  show oL P t (1+(lD (u::r)).cells)
  rw [lQ qP]
  have:=ht.agg
  rw [← hn] at this
  rwa [show 1+(u::r).length=(v::u::r).length by simp; omega]
theorem tz_arr {P:Program} {t:TypeId} {n:Nat} {e:TypeId} {z:Value} (ht:TArr P t n e z) (h2:2≤n):iD P t (lD (List.replicate n z)):=by
 have h:=ht.info
 cases hi:P.info? t with
 | none=>rw [hi] at h; simp at h
 | some i =>
  rw [hi] at h
  simp only [Option.map_some,Option.some.injEq,Prod.mk.injEq] at h
  refine ⟨i,_,hi,h.1,fun S w=>?_⟩
  have:((Value.agg (List.replicate n z).toArray).cells).toList=List.replicate n z:=by simp [Value.cells]
  rw [this]
  exact (o9 (by intro e; have:=congrArg List.length e; simp at this; omega)).2 ⟨rfl,fun v hv=>by rw [(List.mem_replicate.1 hv).2]; exact ht.cell⟩
theorem part_arr:∀ {vs:List Value} {j:Nat},j<vs.length→Part j (lD vs) (.one (vs.getD j undef))
 | [v],0,_=>aG _
 | v::u::r,0,_=>aJ (aG _)
 | v::u::r,j+1,h=>by
  have:=aC (a:=.one v) (part_arr (vs:=u::r) (j:=j) (by simpa using h))
  rw [show (Dat.one v).cells+j=j+1 by show 1+j=_; omega] at this
  exact this
theorem rep_arr {x:Value}:∀ {vs:List Value} {j:Nat},j<vs.length→Rep j (lD vs) (.one x) (lD (vs.set j x))
 | [v],0,_=>cD rfl
 | v::u::r,0,_=>Rep.left (cD rfl)
 | v::u::r,j+1,h=>by
  have h1:=rep_arr (x:=x) (vs:=u::r) (j:=j) (by simpa using h)
  have e:lD ((v::u::r).set (j+1) x)=.cat (.one v) (lD ((u::r).set j x)):=by
   cases j with
   | zero=>rfl
   | succ j=>rfl
  rw [e]
  exact Rep.rk h1 (by show j+1=1+j; omega)
theorem fU {P:Program} {t:TypeId} {n:Nat} {e:TypeId} {z:Value} [ht:TArr P t n e z] {v:Value} {kk:IntKind} {x:Int} {os:List Own} {fs:List bA} {K:cE} (hb:g9 v) (j:Nat) (hj:x=(j:Int)) (hlt:j<n) (h2:2≤n) (k:K (jP v j) os fs) :
  jE P t v (.int kk x) os fs K:=by
 obtain ⟨r,rfl⟩:=hb
 subst hj
 refine ⟨fun _ _ hw=>⟨_,_,fun w' _=>dH ?_,k,hw⟩⟩
 have h0:(0:Int)≤(j:Int)∧(j:Int)<n:=by omega
 have h3:¬ n≤1:=by omega
 simp [Instr.indexAt,asIntOf,run_underlying ht.und,Instr.sureAddr,dB ht.one,jP,h0,h3]
 intro h; omega
theorem index_arrF {P:Program} {t:TypeId} {n:Nat} {e:TypeId} {z:Value} [ht:TArr P t n e z] [h1:lG P e] {u:Value} {vs:List Value} {kk:IntKind} {x:Int} {os:List Own} {fs:List bA} {K:cE} (hm:(u,lD vs)∈fs) (j:Nat) (hj:x=(j:Int)) (hn:vs.length=n) (hlt:j<n) (h2:2≤n)
  (k:K (vs.getD j undef) os fs):IndexK P t u (.int kk x) os fs K:=by
 subst hj
 refine ⟨fun G w hw=>?_⟩
 obtain ⟨rfl,_⟩:=(hw.facts _ hm).arr qN
 have hg:vs[j]? = some (vs.getD j undef):=by simp [gE,show j<vs.length by omega]
 generalize vs.getD j undef=x at hg k
 refine ⟨_,fs,fun w' _=>dH ?_,k,hw⟩
 have h0:(0:Int)≤(j:Int)∧(j:Int)<n:=by omega
 simp [Instr.index,asIntOf,run_underlying ht.und,h0,dB ht.one,Go.part,pM h1,hg,hlt]
def arrS (v:Value) (n:Nat):Value :=
 match v with
 | .pointer a=>.slice a n n
 | v=>v
theorem arrS_e {r k n:Nat}:arrS (jP (.pointer (some ⟨r,0,none⟩)) k) n=.slice (some ⟨r,k,none⟩) n n:=by simp [arrS,jP,eI]
theorem slice_arr {P:Program} {t:TypeId} {n:Nat} {e:TypeId} {z:Value} [ht:TArr P t n e z] {v:Value} {j:Nat} {os:List Own} {fs:List bA} {K:cE} (hb:g9 v) (k:K (arrS (jP v j) n) os fs):oU P t (jP v j) none none none os fs K:=by
 obtain ⟨r,rfl⟩:=hb
 refine ⟨fun _ _ hw=>⟨_,_,fun w' _=>dH ?_,k,hw⟩⟩
 rw [arrS_e]
 simp [Instr.sliceAt,run_underlying ht.und,Instr.sureAddr,Instr.sliceBounds,dB ht.one,jP,eI]
theorem slice_arr0 {P:Program} {t:TypeId} {n:Nat} {e:TypeId} {z:Value} [ht:TArr P t n e z] {v:Value} {os:List Own} {fs:List bA} {K:cE} (hb:g9 v) (k:K (arrS v n) os fs):oU P t v none none none os fs K:=by
 have h:=slice_arr (P:=P) (t:=t) (v:=v) (j:=0) (os:=os) (fs:=fs) (K:=K) hb
 obtain ⟨r,rfl⟩:=hb
 have e:jP (.pointer (some ⟨r,0,none⟩)) 0=.pointer (some ⟨r,0,none⟩):=by simp [jP,eI]
 rw [e] at h
 exact h k
theorem seals_arr {os:List Own} {fs:List bA} (pos:Nat) {v:Value} {n:Nat} {e:Nat→Dat} {vs:List Value} (h:bQ os pos=some (bL v n 1 e)) (hb:g9 v) (hd:e 0=lD vs) (hn:vs.length=n) (h2:2≤n) (hm:n≤1000000) :
  Seals os fs (eE os pos) ((arrS v n,.sl 1 n fun i=>.one (vs.getD i undef))::fs):=by
 intro G w hw
 have h1:=Seals.box pos h hb hd G w hw
 obtain ⟨r,rfl⟩:=hb
 obtain ⟨r',o,cs,e1,h3,h4⟩:=Rd.ptr (h1.facts _ (List.Mem.head _))
 simp only [Value.pointer.injEq,Option.some.injEq,Addr.mk.injEq,and_true] at e1
 obtain ⟨rfl,rfl⟩:=e1
 obtain ⟨e5,h5⟩:=(o9 (by intro e; rw [e] at hn; simp at hn; omega)).1 h3
 rw [e5] at h4
 have e0:arrS (.pointer (some ⟨r,0,none⟩)) n=.slice (some ⟨r,0,none⟩) n n:=rfl
 rw [e0]
 refine (h1.weaken_facts (fs':=fs) fun F hF=>.tail _ hF).put ?_
 have hmx:n≤maxLen:=by unfold maxLen; omega
 refine ⟨[.slice (some ⟨r,0,none⟩) n n],⟨some ⟨r,0,none⟩,n,rfl,Nat.le_refl _,hmx,(fun h=>by cases h),(fun b hb _=>by cases hb; rfl),?_⟩,rfl⟩
 refine fun i hi=>⟨⟨r,0,none⟩,[vs.getD i undef],rfl,⟨rfl,?_⟩,rfl,?_⟩
 ·have:vs.getD i undef∈vs:=by simp [gE,show i<vs.length by omega]
  exact h5 _ this
 ·intro j hj
  obtain rfl:j=0:=by simpa using hj
  have:=h4 i qN
  simp only [Nat.mul_one,Nat.add_zero] at this ⊢
  refine ⟨this.1,this.2.trans ?_⟩
  simp [gE,show i<vs.length by omega]
theorem fill1:∀ (vs:List Value) (k:Nat) (cells:Array Value),(∀ v∈vs,v.oneCell'=true)→k+vs.length≤cells.size→Instr.fill (fun i=>some (i*1,1)) cells (nR k vs)=some ((cells.toList.take k++vs++cells.toList.drop (k+vs.length)).toArray)
 | [],k,cells,_,_=>by simp [nR,Instr.fill]
 | v::r,k,cells,h,hk=>by
  have hc:v.cells = #[v]:=Array.toList_inj.1 (lO (h v (List.mem_cons_self ..)))
  simp only [List.length_cons] at hk
  simp only [nR,Instr.fill,hc]
  have h1:k*1+1≤cells.size:=by omega
  simp only [Nat.mul_one,List.size_toArray,List.length_cons,List.length_nil,Nat.zero_add] 
  rw [if_neg (by simp; omega)]
  have e:(#[v]:Array Value).zipIdx.foldl (fun cs (x:Value×Nat)=>cs.setIfInBounds (k+x.2) x.1) cells=cells.setIfInBounds k v:=by simp
  simp only [e]
  have ih:=fill1 r (k+1) (cells.setIfInBounds k v) (fun x hx=>h x (List.mem_cons_of_mem _ hx)) (by simp; omega)
  simp only [Nat.mul_one] at ih
  rw [ih]
  congr 1
  apply Array.toList_inj.1
  have hlk:k<cells.toList.length:=by simp; omega
  simp only [Array.toList_setIfInBounds,List.append_assoc]
  rw [List.take_set,List.drop_set,if_pos qN]
  have e1:(cells.toList.take (k+1)).set k v=cells.toList.take k++[v]:=by
   rw [List.take_add_one,List.getElem?_eq_getElem hlk]
   simp only [Option.toList_some]
   have hm:min k cells.size=k:=by simp at hlk; omega
   rw [List.set_append_right _ _ (by rw [List.length_take]; omega)]
   simp [hm]
  rw [e1,show k+1+r.length=k+(r.length+1) by omega]
  simp
theorem build_arrF {P:Program} {t:TypeId} {n:Nat} {e:TypeId} {z:Value} [ht:TArr P t n e z] (vs:List Value) {ps:List (Nat×Value)} {os:List Own} {fs:List bA} {K:cE} (hps:ps=nR 0 vs) (hn:vs.length=n) (h2:2≤n) (h1:∀ v∈vs,v.oneCell'=true)
  (k:∀ u,K u os ((u,lD vs)::fs)):oV P t ps os fs K:=by
 subst hps
 refine ⟨fun G w hw=>⟨.agg vs.toArray,_,fun w' _=>dH ?_,k _,hw.put (Rd.mk_arr qN h1)⟩⟩
 have h:=ht.info
 cases hi:P.info? t with
 | none=>rw [hi] at h; simp at h
 | some i =>
  rw [hi] at h
  simp only [Option.map_some,Option.some.injEq,Prod.mk.injEq] at h
  have hf:=fill1 vs 0 (List.replicate n z).toArray h1 (by simp; omega)
  simp [Instr.build,zeroValue,typeInfo,hi,h.1,run_underlying ht.und,dB ht.one,Value.cells] at hf ⊢
  rw [hf]
  simp [← hn]
theorem freeze_size (w:World) (a:Addr) (n:Nat):(w.freeze a n).heap.size=w.heap.size:=by
 unfold World.freeze; split <;> simp
theorem freeze_other (w:World) (a:Addr) (n:Nat) {k:Nat} (h:k≠a.block):(w.freeze a n).heap[k]? = w.heap[k]? := by
 unfold World.freeze
 split
 ·rfl
 ·simp [Array.getElem?_modify,Ne.symm h]
theorem freeze_row {w:World} {r:Nat} {cur:Array Value} {t:TypeId} (h:RowAt w r cur t):RowAt (w.freeze ⟨r,cur.size,none⟩ 1) r cur t:=by
 obtain ⟨⟨lo,hi⟩,h1,h2⟩:=h
 have hlt:r<w.heap.size:=(Array.getElem?_eq_some_iff.1 h1).1
 have hv:w.heap[r]=.cells cur t (lo,hi):=(Array.getElem?_eq_some_iff.1 h1).2
 refine ⟨if lo==hi then (cur.size,cur.size+1) else (min lo cur.size,max hi (cur.size+1)),?_,?_⟩
 ·unfold World.freeze
  rw [if_neg qE,Array.getElem?_eq_getElem (by simpa using hlt),Array.getElem_modify]
  simp [hv]
 ·unfold Unfz at h2 ⊢
  by_cases h:lo=hi
  ·simp [h]
  ·right
   simp only at h2
   simp [h]
   omega
theorem kA {P:Program} {t e:TypeId} {v:Value} {n:Nat} {d:Nat→Dat} {os:List Own} {fs:List bA} {K:cE} {dd:Bool} [ht:TSl P t e 1] (he:P.underlying e=some (.int .u8)) (pos:Nat) (h:bQ os pos=some (bL v 1 n d)) (hs:eQ v) (hn:0<n)
  (k:K v (setOwn os pos (bL v 1 n d)) fs):ConvK P dd t t v os fs K:=by
 refine ⟨fun G w hw=>?_,fun _ hb=>by simp at hb⟩
 rcases pP hw h hs qE with ⟨h1,h2⟩ | ⟨r,cap,h1,b1,b2,b3,cur,t0,b4,b5,b6⟩
 ·omega
 ·subst h1
  have hsh:w.shape? r=some (t0,cur.size):=by obtain ⟨fz,g1,_⟩:=b4; simp [World.shape?,g1]
  have hrun:(convert t t (.slice (some ⟨r,0,none⟩) n cap)).run P w=.ok (.slice (some ⟨r,0,none⟩) n cap) (w.freeze ⟨r,cur.size,none⟩ 1):=by
   simp [convert,run_underlying ht.und,run_underlying he,markStringish,hsh]
  rw [gO hrun]
  have hos:(w.freeze ⟨r,cur.size,none⟩ 1).os=w.os∧(w.freeze ⟨r,cur.size,none⟩ 1).tape=w.tape∧(w.freeze ⟨r,cur.size,none⟩ 1).output=w.output:=by
   unfold World.freeze; split <;> exact ⟨rfl,rfl,rfl⟩
  refine ⟨_,fs,k,hw.step h hos.1 hos.2.1 hos.2.2 (by rw [freeze_size]; exact Nat.le_refl _) (fun q hq hno=>freeze_other w _ _ fun e=>hno ⟨0,Nat.zero_lt_one,by rw [e]; rfl⟩)
   (fun b hb=>.inl hb) (fun i j b hi hj _ _=>by simp only [bL] at hi hj; omega) fun mono x hx=>?_⟩
  exact .inr (.inl ⟨r,cap,rfl,b1,b2,b3,cur,t0,freeze_row b4,b5,fun i hi=>let ⟨cs,c1,c2⟩:=b6 i hi; ⟨cs,mono _ _ c1,c2⟩⟩)
def by8 (n:Nat):Dat:=.one (.int .u8 (n:Nat))
def BD (l:List Nat):Dat:=LD 1 by8 0 l
def kN (v:Value) (l:List Nat):Own:=kU 1 by8 0 v l
def leN (n k:Nat):List Nat:=(List.range k).map fun i=>n/2^(8*i)%256
theorem leN_zero (n:Nat):leN n 0=[]:=rfl
theorem tH (n k:Nat):leN n (k+1)=leN n k++[n/2^(8*k)%256]:=by simp [leN,List.range_succ]
theorem dO (n k:Nat):(leN n k).length=k:=by simp [leN]
theorem lT (n:Nat):IntKind.u8.wrap ((n:Nat):Int)=((n%256:Nat):Int):=by
 simp [IntKind.wrap,IntKind.bits,IntKind.signed]
theorem Reads.one' {os:List Own} {fs:List bA} {v:Value} (h:v.oneCell'=true):Reads os fs v (.one v):=fun G w hw=>⟨[v],⟨rfl,h⟩,lO h⟩
theorem m9 {os:List Own} {fs:List bA} {α:Type} {g:α→Value} (hg:∀ a,(g a).oneCell'=true):∀ l:List α,ReadsAll os fs 1 (l.map g) (l.map fun a=>.one (g a))
 | []=>trivial
 | a::r=>⟨Reads.one' (hg a),rfl,m9 hg r⟩
section
variable {P:Program} {t e ty:TypeId} {bytes:Nat} {os:List Own} {fs:List bA} {K:cE}
theorem kH [ht:TSl P t e 1] [he:TEl P e 1 bytes] (l:List Nat) {n:Nat} {ps:List (Nat×Value)} (hps:ps=nR 0 (l.map fun n=>.int .u8 (n:Nat))) (hn:n=l.length) (hsm:n≤1000) (k:∀ v,eQ v→K v (kN v l::os) fs):BuildSliceK P t n ps os fs K:=by
 have h1:=gZ (P:=P) (t:=t) (os:=os) (fs:=fs) (K:=fun u os' fs'=>∃ os'' fs'',Seals os' fs' os'' fs''∧K u os'' fs'') (n:=n) (l.map fun n=>.int .u8 (n:Nat)) (l.map by8) hps (by simpa using hn) qN qE (m9 (fun _=>rfl) l)
 refine ⟨Grw.sealed (h1 fun v hv=>⟨_,_,?_,k v hv⟩).out⟩
 exact Seals.own_cong (hsz:=.inl qE) (os:=bL v 1 n (fun i=>(l.map by8).getD i (.one undef))::os) (fs:=fs) 0 (n':=l.length) (fun i=>by8 (l.getD i 0)) rfl hn fun i hi=>by
  simp [gE,List.getElem?_map,show i<l.length by omega]
theorem app_byte [ht:TSl P t e 1] [he:TEl P e 1 1] {a:Value} {l:List Nat} {x:Nat} {b:Value} (pos:Nat) (h:bQ os pos=some (kN a l)) (hs:eQ a) (hb:(b,BD [x])∈fs) (hm:l.length<1000000)
  (k:∀ v,eQ v→K v (setOwn os pos (kN v (l++[x]))) fs):AppendK P [t,t] ty a b os fs K :=
 eU pos h hs (cI hb) (by simp; omega) (by simp; omega) k
theorem lit_byte [ht:TSl P t e 1] [he:TEl P e 1 bytes] (x:Nat) (k:∀ v,K v os ((v,BD [x])::fs)):BuildSliceK P t 1 [(0,.int .u8 (x:Nat))] os fs K :=
 rG (size:=1) by8 0 x qE (Reads.one' rfl) rfl k
end
theorem Seals.B {os:List Own} {fs:List bA} (pos:Nat) {v:Value} {l:List Nat} (h:bQ os pos=some (kN v l)) (hs:eQ v):Seals os fs (eE os pos) ((v,BD l)::fs):=Seals.L pos h hs
def hdrJ:List Nat:=[72,65,73,82,74,79,66,49]
def lN (j:Jb):List Nat:=[j.f.toNat,(j.e+64).toNat,j.a,j.b,j.m.toNat]
def les (l:List Nat):List Nat:=l.flatMap fun n=>leN n 8
def gL (j:Jb):List Nat:=hdrJ++les (lN j)
theorem jT:∀ l:List Nat,(les l).length=8*l.length
 | []=>rfl
 | n::r=>by
  show (leN n 8++les r).length=_
  rw [List.length_append,dO,jT r]; simp; omega
theorem tG {l:List Nat} {i:Nat} (h:i<l.length):les (l.take (i+1))=les (l.take i)++leN (l.getD i 0) 8:=by
 rw [List.take_add_one,List.getElem?_eq_getElem h]
 simp only [Option.toList_some,les,List.flatMap_append,List.flatMap_cons,List.flatMap_nil,List.append_nil]
 rw [gE,List.getElem?_eq_getElem h]; rfl
theorem kB (j:Jb):(gL j).length=48:=by simp [gL,hdrJ,jT,lN]
instance iA95:TArr Tryz.prog 95 5 22 (.int .u64 0):=⟨Tryz.underlying95,by kernel_rfl,by kernel_rfl,rfl⟩
instance iZ95:iD Tryz.prog 95 (lD [.int .u64 0,.int .u64 0,.int .u64 0,.int .u64 0,.int .u64 0]):=tz_arr (iA95) qE
def pD (l:List Nat):List Value:=l.map fun n=>.int .u64 (n:Nat)
theorem u64s_get {l:List Nat} {i:Nat} (h:i<l.length):(pD l).getD i undef=.int .u64 (l.getD i 0:Nat):=by
 simp [pD,gE,h]
theorem jBytes (v:Value) (j:Jb) (h:j.ok):aY Tryz.prog 108 [v] [(v,cO j)] (fun r os fs=>os=[]∧fs=[(r,BD (gL j))]):=by
 have hf:=h.f
 have he:=h.e
 have hab:=h.ab
 have hb:=h.b
 have hm:=h.m
 refine mV Tryz.func108 ?_
 refine aQ (aA (d:=cO j) qM) fun p1 hp1=>?_
 refine kH hdrJ rfl rfl qE fun v1 hv1=>?_
 refine kA Tryz.underlying5 0 rfl hv1 qE ?_
 refine aF 1 rfl hp1 ?_
 refine aB (u:=.int .i64 j.f) 1 rfl (aJ (aG _)) ?_
 refine bJ ⟨_,Tryz.underlying3⟩ Tryz.underlying22 ((j.f.toNat:Nat):Int) (by rw [dA]; omega) ?_
 refine aF 1 rfl hp1 ?_
 refine aB (u:=.int .i64 j.e) 1 rfl (aC (aJ (aG _))) ?_
 refine ar rfl qI ?_
 refine bJ ⟨_,Tryz.underlying3⟩ Tryz.underlying22 (((j.e+64).toNat:Nat):Int) (by rw [dA]; omega) ?_
 refine aF 1 rfl hp1 ?_
 refine aB (u:=.int .u64 (j.a:Nat)) 1 rfl (aC (aC (aJ (aG _)))) ?_
 refine aF 1 rfl hp1 ?_
 refine aB (u:=.int .u64 (j.b:Nat)) 1 rfl (aC (aC (aC (aJ (aG _))))) ?_
 refine aF 1 rfl hp1 ?_
 refine aB (u:=.int .i64 j.m) 1 rfl (aC (aC (aC (aC (aG _))))) ?_
 refine bJ ⟨_,Tryz.underlying3⟩ Tryz.underlying22 ((j.m.toNat:Nat):Int) (by rw [dA]; omega) ?_
 refine build_arrF (pD (lN j)) rfl rfl (by show 2≤5; decide) (by simp [pD,lN]; exact ⟨rfl,rfl,rfl,rfl,rfl⟩) fun u1=>?_
 refine aI (d:=lD [.int .u64 0,.int .u64 0,.int .u64 0,.int .u64 0,.int .u64 0]) fun p2 hp2=>?_
 refine bY (d:=lD (pD (lN j))) 0 rfl hp2 rfl qK (aA qM) ?_
 refine aE (d:=lD (pD (lN j))) 0 rfl hp2 rfl (ld_arr iA95 rfl qE) fun u2=>?_
 have hb5:∀ i,i<5→(lN j).getD i 0<18446744073709551616:=fun i hi=>by
  match i,hi with
  | 0,_=>show j.f.toNat<_; omega
  | 1,_=>show (j.e+64).toNat<_; omega
  | 2,_=>show j.a<_; omega
  | 3,_=>show j.b<_; omega
  | 4,_=>show j.m.toNat<_; omega
 have hl5:(lN j).length=5:=rfl
 have hbJ:gL j=hdrJ++les ((lN j).take 5):=rfl
 rw [hbJ]
 generalize lN j=F at *
 have hh8:hdrJ.length=8:=rfl
 refine bD (X:=Nat×Value) (fun x=>([(3,x.2),(25,u2),(26,.int .i64 (x.1:Nat))],[kN x.2 (hdrJ++les (F.take x.1))],[(u2,lD (pD F))]))
  (fun x=>x.1≤5∧eQ x.2) (fun x=>5 - x.1) rfl ?_ ?_
 ·refine bB (0,v1) ⟨Nat.zero_le _,hv1⟩ trivial qF ?_
  simp only [List.take_zero,les,List.flatMap_nil,List.append_nil]
  exact dS (aM (aV 1 _ _) (aD qS))
 rintro ⟨i,vo⟩ ⟨hi,hvo⟩
 simp only at hi hvo ⊢
 have hli:(hdrJ++les (F.take i)).length≤48:=by rw [List.length_append,jT,List.length_take]; omega
 refine aO _ rfl (fun hlt=>?_) (fun hlt=>?_)
 ·have hi5:i<5:=by omega
  refine index_arrF (vs:=pD F) qM i rfl (by simp [pD,hl5]) hi5 qE ?_
  rw [u64s_get qN]
  rw [show les (F.take i)=les (F.take i)++leN (F.getD i 0) 0 by simp [leN]]
  have hx:=hb5 i hi5
  have hsucc:=tG (l:=F) (i:=i) qN
  generalize F.getD i 0=x at *
  generalize hT:les (F.take i)=T at *
  refine bD (X:=Nat×Value) (fun y=>([(3,y.2),(6,.int .u64 (x:Nat)),(25,u2),(26,.int .i64 (i:Nat)),(29,.int .i64 (y.1:Nat))],[kN y.2 (hdrJ++(T++leN x y.1))],[(u2,lD (pD F))]))
   (fun y=>y.1≤8∧eQ y.2) (fun y=>8 - y.1) rfl ?_ ?_
  ·exact bB (0,vo) ⟨Nat.zero_le _,hvo⟩ trivial qF (aD qS)
  rintro ⟨k,vk⟩ ⟨hk,hvk⟩
  simp only at hk hvk ⊢
  refine aO _ rfl (fun hlt2=>?_) (fun hlt2=>?_)
  ·refine ar rfl qI ?_
   refine dJ x (8*k) (2^(8*k)) rfl qN rfl (by show 8*k≤64; omega) ?_
   refine bJ ⟨_,Tryz.underlying22⟩ Tryz.underlying5 _ (lT _) ?_
   refine lit_byte _ fun l1=>?_
   refine app_byte 0 rfl hvk qM (by simp [dO] at hli ⊢; omega) fun u3 hu3=>?_
   refine ar rfl qI ?_
   refine bB (k+1,u3) ⟨by simp only; omega,hu3⟩ (by simp only; omega) qF ?_
   simp only [tH,List.append_assoc]
   exact aD qS
  ·have hk8:k=8:=by omega
   subst hk8
   refine ar rfl qI ?_
   refine bB (i+1,vk) ⟨by simp only; omega,hvk⟩ (by simp only; omega) qF ?_
   simp only [hsucc]
   exact aD qS
 ·have hi5:i=5:=by omega
  subst hi5
  exact fin ⟨rfl,rfl⟩ (aM (Seals.B 0 rfl hvo) (aD qS))
theorem aP {os:List Own} {fs:List bA} {v:Value} (h:v.oneCell'=true):Reads os fs v (.one v):=Reads.one' h
theorem CallK.monoF {P:Program} {fv:Value} {args:List Value} {os:List Own} {fs:List bA} {K K':cE} (hk:∀ v os fs,K v os fs→K' v os fs) (h:CallK P false fv args os fs K):CallK P false fv args os fs K' :=
 ⟨fun G w hw=>Comes1.mono (fun v w' ⟨os',fs',h1,h2⟩=>⟨os',fs',hk _ _ _ h1,h2⟩) (h.out G w hw),fun h=>by cases h⟩
theorem nM (l:List Nat):gX Tryz.prog 37 (BD l):=(inferInstance:lG Tryz.prog 37)
theorem backB_go {N:Nat} {g:Operand} {ps:Array Tmp} {sg bd:Code} {f:Fr} {os:List Own} {fs:List bA} {Q:iX} {p:Value} (b:List Nat) (J:Nat→List Own×List bA)
  (hg:ev f g=some (.func (.func 65) #[] #[p])) (hp:∀ k,k≤b.length→(p,.ptr (BD b))∈(J k).2) (hlen:b.length≤4611686018427387904)
  (h0:∀ o,Seals (o::os) fs (o::(J 0).1) (J 0).2) (hend:Q .normal f (J b.length).1 (J b.length).2) (hps:ps.toList.length=2) (hlt:allLt N ps.toList=true) (hok:(fH N sg&&fH N bd&&noR sg&&noR bd)=true)
  (hround:∀ l D fn tm k fsx,k<b.length→Sub (J k).2 fsx→VC Tryz.prog N sg (pushP f ps.toList [.int .i64 ((b.length:Int) - 1 - k),.int .u8 (b.getD (b.length - 1 - k) 0:Nat)]) (dV l (recD ps sg bd fn tm D .ready none)::(J k).1) fsx
   (asgnQ Tryz.prog N l (recD ps sg bd fn tm D) bd (NextI l (recD ps sg bd fn tm D) J k f Q))):OverK Tryz.prog N g ps sg bd f os fs Q:=by
 refine over_go (caps:=[p]) hg (enters Tryz.func65 qK rfl) fun l D fn tm hk=>?_
 refine cM (h0 _) ?_
 refine bX (args:=[yv l]) (caps:=[p]) Tryz.func65 qK rfl qK (Nat.le_of_ble_eq_true rfl) ?_
 refine cS (hp 0 (Nat.zero_le _)) (nM _) fun s=>?_
 refine aS qM fun _=>?_
 refine ar rfl qI ?_
 refine bD (X:=Nat) (fun k=>([(0,yv l),(1,p),(3,.int .i64 ((b.length:Int) - 1 - k))],dV l (recD ps sg bd fn tm D .ready none)::(J k).1,(J k).2)) (fun k=>k≤b.length) (fun k=>b.length - k) rfl ?_ ?_
 ·exact bB 0 (Nat.zero_le _) trivial qF (aD fun F hF=>.tail _ hF)
 intro k hk2
 refine aO (0≤(b.length:Int) - 1 - k) rfl (fun hlt2=>?_) (fun hlt2=>?_)
 ·have hkb:k<b.length:=by omega
  refine cS (hp k (Nat.le_of_lt hkb)) (nM _) fun s2=>?_
  refine aZ (v:=s2) qM (b.length - 1 - k) qN qN fun a1=>?_
  refine bF (u:=.int .u8 (b.getD (b.length - 1 - k) 0:Nat)) qM ?_
  refine CallK.monoF ?_ (yield_go 0 rfl hk (by rw [hps]; rfl) hlt hok (hround l D fn tm k _ hkb (fun F hF=>.tail _ (.tail _ hF))))
  rintro v os1 fs1 (⟨rfl,hs⟩ | ⟨rfl,hI⟩)
  ·refine ar rfl qI ?_
   exact bB (k+1) qO qO qF hs
  ·exact fin hI (aT _ _)
 ·have hkb:k=b.length:=by omega
  subst hkb
  exact fin (os':=dV l (recD ps sg bd fn tm D .ready none)::(J b.length).1) (fs':=(J b.length).2) ⟨0,.inl ⟨rfl,hend⟩⟩ (aT _ _)
def sB (l:List Nat):ByteArray:=strOfNums (l.map fun n:Nat=>(n:Int))
theorem sB_eq {a b:List Nat} (ha:∀ n∈a,n<256) (hb:∀ n∈b,n<256):(sB a==sB b)=decide (a=b):=by
 have inj:∀ {a b:List Nat},(∀ n∈a,n<256)→(∀ n∈b,n<256)→a.map UInt8.ofNat=b.map UInt8.ofNat→a=b:=by
  intro a
  induction a with
  | nil=>intro b _ _ h; cases b with
   | nil=>rfl
   | cons=>simp at h
  | cons x r ih =>
   intro b ha hb h
   cases b with
   | nil=>simp at h
   | cons y s =>
    simp only [List.map_cons,List.cons.injEq] at h
    have hx:=ha x (List.mem_cons_self ..)
    have hy:=hb y (List.mem_cons_self ..)
    have h1:x=y:=by
     have:=congrArg UInt8.toNat h.1
     simp at this
     omega
    rw [h1,ih (fun n hn=>ha n (List.mem_cons_of_mem _ hn)) (fun n hn=>hb n (List.mem_cons_of_mem _ hn)) h.2]
 have hd:∀ a b:ByteArray,(a==b)=(a.data==b.data):=fun a b=>by cases a; cases b; rfl
 rw [hd]
 by_cases h:a=b
 ·subst h; simp
 ·have:¬ sB a=sB b:=fun e=>h (inj ha hb (by
   have:=congrArg (fun s:ByteArray=>s.data.toList) e
   simp only [sB,strOfNums_data,List.map_map] at this
   simpa [Function.comp_def] using this))
  have h2:¬ (sB a).data=(sB b).data:=fun e=>this (ByteArray.ext e)
  simp [h,h2]
theorem conv_str {P:Program} {src dst e:TypeId} {u:Value} {l:List Nat} {os:List Own} {fs:List bA} {K:cE} {d:Bool} (hs:P.underlying src=some (.slice e)) (he:P.underlying e=some (.int .u8)) (hd:P.underlying dst=some .string) (hm:(u,BD l)∈fs) (h0:0<l.length)
  (k:K (.string (sB l)) os fs):ConvK P d src dst u os fs K:=by
 refine ConvK.of fun G w hw=>?_
 obtain ⟨a,c,rfl,h2,h3,h4,h5,h6⟩:=(hw.facts _ hm).sl
 obtain ⟨ad,_,had,_⟩:=h6 0 h0
 subst had
 have hsp:=h5 ad rfl h0
 obtain ⟨b,off,sp⟩:=ad
 simp only at hsp
 subst hsp
 refine ⟨_,fs,fun w' hw'=>dH (run_convert_bytes_arg w' src e hs he b off l.length c (l.map fun n:Nat=>(n:Int)) qP (fun i hi=>?_) dst hd),k,hw⟩
 obtain ⟨b',cs,hb,g1,g2,g3⟩:=h6 i hi
 simp only [Option.some.injEq] at hb
 subst hb
 obtain ⟨rfl,_⟩:=g1
 obtain ⟨q1,q2⟩:=g3 0 qP
 simp only [Nat.mul_one,Nat.add_zero] at q2
 have:w'.cell? ⟨b,off+i,none⟩=w.cell? ⟨b,off+i,none⟩:=by simp [World.cell?,hw'.block b q1.1]
 rw [this,q2]
 simp [gE,hi]
theorem eq_str {P:Program} {t:TypeId} {x y:Operand} {a b:ByteArray} {os:List Own} {fs:List bA} {K:cE} (ht:P.underlying t=some .string) (k:K (.bool (a==b)) os fs):pC P .eql t x y (.string a) (.string b) os fs K:=by
 have hrun:∀ w',(do eqGuard .eql t x y (.string a) (.string b); binOp .eql t (.string a) (.string b):Sem Value).run P w'=.ok (.bool (a==b)) w':=fun w'=>by
  have hg:(eqGuard .eql t x y (.string a) (.string b)).run P w'=.ok () w':=rfl
  rw [Sem.run_bind,hg,Result.andThen_ok]
  simp [binOp,Op.stringOp,beq_toListBytes]
 exact ⟨dD _ hrun k⟩
theorem bEqual (u v:Value) (a b:List Nat) (ha:∀ n∈a,n<256) (hb:∀ n∈b,n<256) (h1:0<a.length) (h2:0<b.length):aY Tryz.prog 34 [u,v] [(u,BD a),(v,BD b)] (fun r os fs=>os=[]∧fs=[]∧r=.bool (decide (a=b))):=by
 refine mV Tryz.func34 ?_
 refine conv_str Tryz.underlying37 Tryz.underlying5 Tryz.underlying9 (l:=a) qM h1 ?_
 refine conv_str Tryz.underlying37 Tryz.underlying5 Tryz.underlying9 (l:=b) qM h2 ?_
 refine eq_str Tryz.underlying9 ?_
 exact fin ⟨rfl,rfl,by rw [sB_eq ha hb]; rfl⟩ (aD qS)
theorem eV {P:Program} {t e:TypeId} {v:Value} {l:List Nat} {kl kh:IntKind} {os:List Own} {fs:List bA} {K:cE} [ht:TSl P t e 1]
  (hm:(v,BD l)∈fs) (lo hi:Nat) (x y:Option Value) (hl:(x=none∧lo=0)∨x=some (.int kl lo)) (hh:(y=none∧hi=l.length)∨y=some (.int kh hi)) (h1:lo≤hi) (h2:hi≤l.length)
  (k:∀ u,K u os ((u,BD ((l.take hi).drop lo))::fs)):oU P t v x y none os fs K:=by
 have h:=n7 (P:=P) (t:=t) (os:=os) (fs:=fs) (K:=fun u os' fs'=>os'=os∧fs'=(u,.sl 1 (hi - lo) fun i=>by8 (l.getD (lo+i) 0))::fs) hm lo hi x y hl hh h1 h2 fun u=>⟨rfl,rfl⟩
 refine ⟨fun G w hw=>?_⟩
 obtain ⟨u,fs',e1,⟨_,rfl⟩,hw'⟩:=h.out G w hw
 refine ⟨u,_,e1,k u,?_⟩
 have h3:=Seals.add (Knw.cast (Knw.sl_cong (e':=fun i=>by8 (((l.take hi).drop lo).getD i 0)) (cI (List.Mem.head _)) fun i hi'=>?_) (d':=BD ((l.take hi).drop lo)) ?_) G w hw'
 ·exact h3.weaken_facts fun F hF=>by
   rcases List.mem_cons.1 hF with rfl | hF
   ·exact .head _
   ·exact .tail _ (.tail _ hF)
 ·simp only [gE,List.getElem?_drop]
  rw [List.getElem?_take_of_lt qN]
 ·unfold BD LD
  rw [List.length_drop,List.length_take,Nat.min_eq_left h2]
theorem bHasPrefix (u v:Value) (a b:List Nat) (ha:∀ n∈a,n<256) (hb:∀ n∈b,n<256) (h2:0<b.length) (hab:b.length≤a.length):aY Tryz.prog 17 [u,v] [(u,BD a),(v,BD b)] (fun r os fs=>os=[]∧fs=[]∧r=.bool (decide (a.take b.length=b))):=by
 refine mV Tryz.func17 ?_
 refine aS (v:=u) (n:=a.length) (size:=1) qM fun _=>?_
 refine aS (v:=v) (n:=b.length) (size:=1) qM fun _=>?_
 refine bG rfl qN ?_
 refine aS (v:=v) (n:=b.length) (size:=1) qM fun _=>?_
 refine eV (v:=u) (l:=a) qM 0 b.length _ _ (kl:=.i64) (.inl ⟨rfl,rfl⟩) (.inr rfl) (Nat.zero_le _) hab fun u2=>?_
 rw [List.drop_zero]
 refine cH (bEqual u2 v (a.take b.length) b (fun n hn=>ha n (List.mem_of_mem_take hn)) hb (by rw [List.length_take]; omega) h2) ?_
 exact fin ⟨rfl,rfl,rfl⟩ (aD qS)
theorem bCutPrefix (u v:Value) (a b:List Nat) (ha:∀ n∈a,n<256) (hb:∀ n∈b,n<256) (h2:0<b.length):aY Tryz.prog 36 [u,v] [(u,BD (b++a)),(v,BD b)] (fun r os fs=>os=[]∧∃ x,r=.tuple #[x,.bool true]∧fs=[(x,BD a)]):=by
 refine mV Tryz.func36 ?_
 refine cH (bHasPrefix u v (b++a) b (fun n hn=>(List.mem_append.1 hn).elim (hb n) (ha n)) hb h2 qP) ?_
 rw [show decide ((b++a).take b.length=b)=true by simp]
 refine aS (v:=v) (n:=b.length) (size:=1) qM fun _=>?_
 refine eV (v:=u) (l:=b++a) qM b.length (b++a).length _ _ (kh:=.i64) (.inr rfl) (.inl ⟨rfl,rfl⟩) qP (Nat.le_refl _) fun u2=>?_
 rw [List.take_length,List.drop_left]
 exact fin ⟨rfl,u2,rfl,rfl⟩ (aD qS)
theorem bBackward (u:Value) (b:List Nat):aY Tryz.prog 35 [u] [(u,BD b)] (fun r os fs=>os=[]∧∃ p,r=.func (.func 65) #[] #[p]∧fs=[(p,.ptr (BD b))]):=by
 refine mV Tryz.func35 ?_
 refine aQ (aA (d:=BD b) qM) fun p1 hp1=>?_
 exact fin ⟨rfl,p1,rfl,rfl⟩ (aM (Seals.box 0 rfl hp1 rfl) (aD qS))
def leV:List Nat→Nat
 | []=>0
 | c::r=>c+256*leV r
theorem leV_lt:∀ {l:List Nat},(∀ n∈l,n<256)→leV l<256^l.length
 | [],_=>by simp [leV]
 | c::r,h=>by
  have h1:=leV_lt (l:=r) fun n hn=>h n (List.mem_cons_of_mem _ hn)
  have h2:=h c (List.mem_cons_self ..)
  simp only [leV,List.length_cons,Nat.pow_succ]
  omega
theorem leN_lt (n k:Nat):∀ x∈leN n k,x<256:=fun x hx=>by
 obtain ⟨i,_,rfl⟩:=List.mem_map.1 hx
 exact Nat.mod_lt _ qE
theorem leN_cons (n k:Nat):leN n (k+1)=n%256::leN (n/256) k:=by
 simp only [leN,List.range_succ_eq_map,List.map_cons,List.map_map]
 congr 1
 ·simp
 ·refine List.map_congr_left fun i _=>?_
  simp only [Function.comp,Nat.div_div_eq_div_mul]
  rw [show 8*(i+1)=8+8*i by omega,Nat.pow_add]
theorem rH:∀ (k n:Nat),leV (leN n k)=n%256^k
 | 0,n=>by simp [leN,leV,Nat.mod_one]
 | k+1,n=>by
  rw [leN_cons,leV,rH k,Nat.pow_succ,Nat.mul_comm (256^k) 256]
  exact (Nat.mod_mul).symm
theorem drop_get {l:List Nat} {i:Nat} (h:i<l.length):l.drop i=l.getD i 0::l.drop (i+1):=by
 rw [gE,List.getElem?_eq_getElem h]
 exact List.drop_eq_getElem_cons h
theorem or_low {a c:Nat} (hc:c<256):a*256 ||| c=a*256+c:=by
 rw [show (256:Nat)=2^8 from rfl,Nat.mul_comm,Nat.two_pow_add_eq_or_of_lt qN]
theorem u64s_set (l:List Nat) (i x:Nat):(pD l).set i (.int .u64 (x:Nat))=pD (l.set i x):=by simp [pD,List.map_set]
theorem pG (l:List Nat):(pD l).length=l.length:=by simp [pD]
theorem les_piece:∀ {l:List Nat} {i:Nat},i<l.length→((les l).take (8*i+8)).drop (8*i)=leN (l.getD i 0) 8
 | n::r,0,_=>by
  show ((leN n 8++les r).take 8).drop 0=_
  rw [List.drop_zero,List.take_left' (dO n 8)]; rfl
 | n::r,i+1,h=>by
  show ((leN n 8++les r).take (8*(i+1)+8)).drop (8*(i+1))=_
  rw [List.take_append,List.drop_append,dO]
  have h1:((leN n 8).take (8*(i+1)+8)).drop (8*(i+1))=[]:=by
   apply List.drop_eq_nil_of_le; simp [dO]; omega
  rw [h1,List.nil_append,List.length_take,dO]
  rw [show 8*(i+1)+8 - 8=8*i+8 by omega,show 8*(i+1) - min (8*(i+1)+8) 8=8*i by omega,les_piece (l:=r) (i:=i) (by simpa using h)]
  rfl
theorem max3_rule {P:Program} {ts:List TypeId} {ty:TypeId} {k:IntKind} {x y z:Int} {os:List Own} {fs:List bA} {K:cE} (h:K (.int k (max (max x y) z)) os fs):MaxK P true ts ty [.int k x,.int k y,.int k z] os fs K :=
 ⟨dD _ (fun w=>by
  simp only [Builtin.max_,List.foldlM,Builtin.max2]
  have e1:(if y > x then y else x)=max x y:=by omega
  have e2:(if z > max x y then z else max x y)=max (max x y) z:=by omega
  simp [e1,e2]) h⟩
def got (F:List Nat) (i:Nat):List Nat:=F.take i++List.replicate (5 - i) 0
theorem got_len {F:List Nat} {i:Nat} (h:F.length=5) (hi:i≤5):(got F i).length=5:=by simp [got]; omega
theorem got_get {F:List Nat} {i:Nat} (h:F.length=5) (hi:i<5):(got F i).getD i 0=0:=by
 simp [got,gE,List.getElem?_append,List.length_take,show min i F.length=i by omega,List.getElem?_replicate,show 0<5 - i by omega]
theorem got_set {F:List Nat} {i:Nat} (h:F.length=5) (hi:i<5):(got F i).set i (F.getD i 0)=got F (i+1):=by
 unfold got
 rw [List.set_append_right _ _ (by simp; omega),List.length_take,show i - min i F.length=0 by omega,show 5 - i=(5 - (i+1))+1 by omega,List.replicate_succ,List.set_cons_zero,
  List.take_add_one,List.getElem?_eq_getElem (by omega:i<F.length),List.append_assoc]
 rw [gE,List.getElem?_eq_getElem (by omega:i<F.length)]
 rfl
theorem Seals.asC {os:List Own} {fs:List bA} (pos:Nat) {v:Value} {size:Nat} {e:Nat→Dat} {d:Dat} (h:bQ os pos=some (bL v size 1 e)) (he:e 0=d):Seals os fs (setOwn os pos (bL v size 1 fun _=>d)) fs :=
 Seals.own_cong pos (fun _=>d) h rfl fun i hi=>by
                            obtain rfl:i=0:=by omega
                            exact he
theorem job0_rd (S:Nat→Prop) (w:World):RdC S w (cO ⟨0,0,0,0,0⟩) [.int .i64 0,.int .i64 0,.int .u64 0,.int .u64 0,.int .i64 0] :=
 ⟨_,_,rfl,⟨rfl,rfl⟩,_,_,rfl,⟨rfl,rfl⟩,_,_,rfl,⟨rfl,rfl⟩,_,_,rfl,⟨rfl,rfl⟩,⟨rfl,rfl⟩⟩
instance tzJob:iD Tryz.prog 24 (cO ⟨0,0,0,0,0⟩):=mQ infT24 fun S w=>job0_rd S w
set_option maxHeartbeats 1600000 in
theorem jRead (v:Value) (j:Jb) (h:j.ok):aY Tryz.prog 20 [v] [(v,BD (gL j))] (fun r os fs=>os=[]∧∃ x,r=.tuple #[x,.int .i64 0]∧fs=[(x,cO j)]):=by
 have hf:=h.f
 have he:=h.e
 have hab:=h.ab
 have hb:=h.b
 have hm:=h.m
 have hb5:∀ i,i<5→(lN j).getD i 0<18446744073709551616:=fun i hi=>by
  match i,hi with
  | 0,_=>show j.f.toNat<_; omega
  | 1,_=>show (j.e+64).toNat<_; omega
  | 2,_=>show j.a<_; omega
  | 3,_=>show j.b<_; omega
  | 4,_=>show j.m.toNat<_; omega
 have hl5:(lN j).length=5:=rfl
 have h0:(lN j).getD 0 0=j.f.toNat:=rfl
 have h1:(lN j).getD 1 0=(j.e+64).toNat:=rfl
 have h2:(lN j).getD 2 0=j.a:=rfl
 have h3:(lN j).getD 3 0=j.b:=rfl
 have h4:(lN j).getD 4 0=j.m.toNat:=rfl
 have hles:∀ n∈les (lN j),n<256:=fun n hn=>by
  obtain ⟨x,_,hx⟩:=List.mem_flatMap.1 hn
  exact leN_lt _ _ _ hx
 have hlen:(les (lN j)).length=40:=by rw [jT,hl5]
 unfold gL
 refine mV Tryz.func20 ?_
 generalize lN j=F at *
 refine aI (d:=cO ⟨0,0,0,0,0⟩) fun p1 hp1=>?_
 refine kH hdrJ rfl rfl qE fun v1 hv1=>?_
 refine kA Tryz.underlying5 0 rfl hv1 qE ?_
 refine bN (bCutPrefix v v1 (les F) hdrJ hles qE qE) (Seals.B (l:=hdrJ) 0 rfl hv1) qS ?_
 rintro _ _ _ ⟨rfl,q1,rfl,rfl⟩
 refine aS (v:=q1) (n:=(les F).length) (size:=1) qM fun _=>?_
 rw [hlen]
 refine aL rfl qN ?_
 refine aI (d:=lD [.int .u64 0,.int .u64 0,.int .u64 0,.int .u64 0,.int .u64 0]) fun p2 hp2=>?_
 refine bD (X:=Nat) (fun i=>([(2,p1),(3,.int .i64 0),(4,q1),(6,p2),(25,.int .i64 (i:Nat))],[bL p2 5 1 (fun _=>lD (pD (got F i))),bL p1 5 1 (fun _=>cO ⟨0,0,0,0,0⟩)],[(q1,BD (les F))])) (fun i=>i≤5) (fun i=>5 - i) rfl ?_ ?_
 ·exact bB 0 (Nat.zero_le _) trivial qF (aD qS)
 intro i hi
 refine aO _ rfl (fun hlt=>?_) (fun hlt=>?_)
 ·have hi5:i<5:=by omega
  refine aI (d:=.one (.int .i64 0)) fun p3 hp3=>?_
  refine bY (d:=.one (.int .i64 (i:Nat))) 0 rfl hp3 rfl qK (aP rfl) ?_
  refine aW (u:=.int .i64 (i:Nat)) 0 rfl hp3 rfl ?_
  refine ar rfl qI ?_
  refine aW (u:=.int .i64 (i:Nat)) 0 rfl hp3 rfl ?_
  refine ar rfl qI ?_
  refine ar rfl qI ?_
  refine eV (v:=q1) (l:=les F) qM (8*i) (8*i+8) _ _ (kl:=.i64) (kh:=.i64) (.inr (by congr 1)) (.inr (by congr 1)) qN qN fun u2=>?_
  rw [les_piece qN]
  have hx:=hb5 i hi5
  have hset:=got_set (F:=F) hl5 hi5
  have hget:=got_get (F:=F) hl5 hi5
  have hgl:=got_len (F:=F) hl5 hi
  have hbl:=dO (F.getD i 0) 8
  have hbt:=leN_lt (F.getD i 0) 8
  have hbv:=rH 8 (F.getD i 0)
  rw [Nat.mod_eq_of_lt (by simpa using hx)] at hbv
  generalize leN (F.getD i 0) 8=b at *
  generalize F.getD i 0=x at *
  refine cF (bBackward u2 b) ?_
  rintro _ _ _ ⟨rfl,p4,rfl,rfl⟩
  have hself:(got F i).set i 0=got F i:=by
   rw [← hget,gE,List.getElem?_eq_getElem (by omega:i<(got F i).length)]
   simp
  generalize got F i=l at *
  refine backB_go b (fun k=>([bL p3 1 1 (fun _=>.one (.int .i64 (i:Nat))),bL p2 5 1 (fun _=>lD (pD (l.set i (leV (b.drop (8 - k)))))),bL p1 5 1 (fun _=>cO ⟨0,0,0,0,0⟩)],[(p4,.ptr (BD b)),(q1,BD (les F))])) rfl (fun k _=>.head _) qN (fun o=>?_) ?_ rfl rfl rfl ?_
  ·simp only [Nat.sub_zero]
   rw [show b.drop 8=[] from List.drop_eq_nil_of_le qN,show leV []=0 from rfl,hself]
   exact aM (Seals.asC 1 rfl rfl) (aD qS)
  ·simp only [Nat.sub_self,hbl,List.drop_zero,hbv,hset]
   refine ar rfl qI ?_
   exact bB (i+1) qO qO qF (dS (aD qS))
  ·intro rl D fn tm k fsx hk hfs
   have hfs4:(p4,Dat.ptr (BD b))∈fsx:=hfs _ (.head _)
   have hfs1:(q1,BD (les F))∈fsx:=hfs _ (.tail _ (.head _))
   refine ⟨⟨0,rfl,?_⟩⟩
   refine bC [0,1,2,3,4,5,6,7,8,9] [0,1,2,3,4,5,6,7,8,9] qK qK ?_
   refine aW (u:=.int .i64 (i:Nat)) (e:=fun _=>.one (.int .i64 (i:Nat))) 1 rfl hp3 rfl ?_
   refine aW (u:=.int .i64 (i:Nat)) (e:=fun _=>.one (.int .i64 (i:Nat))) 1 rfl hp3 rfl ?_
   have hgk:(l.set i (leV (b.drop (8 - k)))).getD i 0=leV (b.drop (8 - k)):=by simp [gE,show i<l.length by omega]
   have hlk:(l.set i (leV (b.drop (8 - k)))).length=5:=by simp [hgl]
   have hss:∀ y,(l.set i (leV (b.drop (8 - k)))).set i y=l.set i y:=fun y=>by simp
   have hdr:=drop_get (l:=b) (i:=b.length - 1 - k) qN
   have hc:b.getD (b.length - 1 - k) 0<256:=hbt _ (eZ 0 qN)
   have hak:leV (b.drop (8 - k))<256^k:=by
    have:=leV_lt (l:=b.drop (8 - k)) fun n hn=>hbt n (List.mem_of_mem_drop hn)
    rwa [List.length_drop,hbl,show 8 - (8 - k)=k by omega] at this
   have hak7:leV (b.drop (8 - k))<256^7:=Nat.lt_of_lt_of_le hak (Nat.pow_le_pow_right qE qN)
   have hnext:leV (b.drop (8 - (k+1)))=leV (b.drop (8 - k))*256+b.getD (b.length - 1 - k) 0:=by
    rw [show 8 - (k+1)=b.length - 1 - k by omega,hdr,show b.length - 1 - k+1=8 - k by omega]
    simp only [leV]; omega
   generalize leV (b.drop (8 - k))=acc at *
   generalize l.set i acc=lk at *
   generalize b.getD (b.length - 1 - k) 0=c at *
   refine fU (z:=.int .u64 0) hp2 i rfl hi5 qE ?_
   refine aB (u:=.int .u64 (acc:Nat)) (e:=fun _=>lD (pD lk)) 2 rfl (by
    have:=part_arr (vs:=pD lk) (j:=i) (by rw [pG]; omega)
    rwa [u64s_get qN,hgk] at this) ?_
   refine jF acc 8 rfl rfl qE ?_
   refine bJ ⟨_,Tryz.underlying5⟩ Tryz.underlying22 ((c:Nat):Int) (by rw [dA]; omega) ?_
   refine nI (acc*2^8%18446744073709551616) c rfl rfl (Nat.mod_lt _ qE) qN ?_
   rw [Nat.mod_eq_of_lt qN,show acc*2^8=acc*256 from rfl,or_low hc,← hnext]
   refine fU (z:=.int .u64 0) hp2 i rfl hi5 qE ?_
   refine cP 2 rfl hp2 (rep_arr (x:=.int .u64 _) (by rw [pG]; omega)) (aP rfl) ?_ (hs:=by show 5=(lD (pD lk)).cells; rw [lQ (by intro e; have:=congrArg List.length e; rw [pG,hlk] at this; simp at this),pG,hlk])
   refine ⟨⟨0,rfl,.inl ⟨rfl,?_⟩⟩⟩
   rw [u64s_set,hss]
   exact aD (fun F hF=>by
    rcases List.mem_cons.1 hF with rfl | hF
    ·exact hfs4
    ·rcases List.mem_cons.1 hF with rfl | hF
     ·exact hfs1
     ·cases hF)
 ·obtain rfl:i=5:=by omega
  have hg5:got F 5=F:=by simp [got,List.take_of_length_le (Nat.le_of_eq hl5)]
  rw [hg5]
  have ld:∀ i,i<5→Part i (lD (pD F)) (.one (.int .u64 (F.getD i 0:Nat))):=fun i hi=>by
   have:=part_arr (vs:=pD F) (j:=i) (by rw [pG]; omega)
   rwa [u64s_get qN] at this
  have ld0:=ld 0 qE; have ld1:=ld 1 qE; have ld2:=ld 2 qE; have ld3:=ld 3 qE; have ld4:=ld 4 qE
  rw [h0] at ld0; rw [h1] at ld1; rw [h2] at ld2; rw [h3] at ld3; rw [h4] at ld4
  refine fU (z:=.int .u64 0) hp2 0 rfl qE qE ?_
  refine aB (e:=fun _=>lD (pD F)) 0 rfl ld0 ?_
  refine fU (z:=.int .u64 0) hp2 1 rfl qE qE ?_
  refine aB (e:=fun _=>lD (pD F)) 0 rfl ld1 ?_
  refine fU (z:=.int .u64 0) hp2 4 rfl qE qE ?_
  refine aB (e:=fun _=>lD (pD F)) 0 rfl ld4 ?_
  refine max3_rule ?_
  refine aL rfl qN ?_
  refine fU (z:=.int .u64 0) hp2 0 rfl qE qE ?_
  refine aB (e:=fun _=>lD (pD F)) 0 rfl ld0 ?_
  refine bJ ⟨_,Tryz.underlying22⟩ Tryz.underlying3 j.f (by rw [show ((j.f.toNat:Nat):Int)=j.f by omega]; exact bT ⟨by omega,by omega⟩) ?_
  refine fU (z:=.int .u64 0) hp2 1 rfl qE qE ?_
  refine aB (e:=fun _=>lD (pD F)) 0 rfl ld1 ?_
  refine bJ ⟨_,Tryz.underlying22⟩ Tryz.underlying3 (j.e+64) (by rw [show (((j.e+64).toNat:Nat):Int)=(j.e+64) by omega]; exact bT ⟨by omega,by omega⟩) ?_
  refine ar rfl qI ?_
  refine fU (z:=.int .u64 0) hp2 2 rfl qE qE ?_
  refine aB (e:=fun _=>lD (pD F)) 0 rfl ld2 ?_
  refine fU (z:=.int .u64 0) hp2 3 rfl qE qE ?_
  refine aB (e:=fun _=>lD (pD F)) 0 rfl ld3 ?_
  refine fU (z:=.int .u64 0) hp2 4 rfl qE qE ?_
  refine aB (e:=fun _=>lD (pD F)) 0 rfl ld4 ?_
  refine bJ ⟨_,Tryz.underlying22⟩ Tryz.underlying3 j.m (by rw [show ((j.m.toNat:Nat):Int)=j.m by omega]; exact bT ⟨by omega,by omega⟩) ?_
  rw [show j.e+64 + -64=j.e by omega]
  refine dE [.one (.int .i64 j.f),.one (.int .i64 j.e),.one (.int .u64 (j.a:Nat)),.one (.int .u64 (j.b:Nat)),.one (.int .i64 j.m)] (by exact ⟨⟨aP rfl,rfl⟩,⟨aP rfl,rfl⟩,⟨aP rfl,rfl⟩,⟨aP rfl,rfl⟩,⟨aP rfl,rfl⟩,trivial⟩) fun u3=>?_
  refine bY (d:=cO j) 1 rfl hp1 rfl qK (aA (d:=cO j) qM) ?_
  refine aE (d:=cO j) 1 rfl hp1 rfl cZ fun u4=>?_
  exact fin ⟨rfl,u4,rfl,rfl⟩ (dS (dS (aD qS)))
structure Ht where
 b:Nat
 l:Lk7
def fG (h:Ht):Dat:=.cat (.one (.int .u64 (h.b:Nat))) (fY h.l)
def ht0:Ht:=⟨0,pS⟩
def HD (l:List Ht):Dat:=LD 14 fG ht0 l
def ownH (v:Value) (l:List Ht):Own:=kU 14 fG ht0 v l
def iO (LV:Int→Nat→Int→Lk7) (f m:Int) (p:Nat):Nat→List Ht
 | 0=>[]
 | n+1=>iO LV f m p n++(if (LV f (p+n) m).h then [⟨p+n,LV f (p+n) m⟩] else [])
theorem jK (LV:Int→Nat→Int→Lk7) (f m:Int) (p:Nat):∀ n,(iO LV f m p n).length≤n
 | 0=>Nat.le_refl _
 | n+1=>by
  have:=jK LV f m p n
  simp only [iO,List.length_append]
  split <;> simp <;> omega
def pI (p:Nat) (n:Int):Dat:=.cat (.one (.int .u64 (p:Nat))) (.one (.int .i64 n))
theorem ld_span (p:Nat) (n:Int):gX Tryz.prog 189 (pI p n):=(inferInstance:oL Tryz.prog 189 2)
theorem oF (x:Lk7):gX Tryz.prog 44 (fY x):=(inferInstance:oL Tryz.prog 44 13)
theorem sEach {LV:Int→Nat→Int→Lk7} (hL:mP LV) (v:Value) (f m:Int) (p n:Nat) (hf:0≤f∧f≤5) (hm:1≤m∧m≤128) (hp:4318952042648305664≤p) (hpn:p+n≤4652218415073722368) (hn:n≤4) :
  aY Tryz.prog 110 [.int .i64 f,v,.int .i64 m] [(v,pI p n)] (fun r os fs=>os=[]∧∃ x,r=.tuple #[x,.int .i64 0]∧fs=[(x,HD (iO LV f m p n))]):=by
 refine mV Tryz.func110 ?_
 refine aQ (aA (d:=pI p n) qM) fun p1 hp1=>?_
 refine aF 0 rfl hp1 ?_
 refine aB (u:=.int .i64 (n:Nat)) 0 rfl (aC (aG _)) ?_
 refine bJ ⟨_,Tryz.underlying3⟩ Tryz.underlying22 ((n:Nat):Int) (by rw [dA]; omega) ?_
 refine bD (X:=Nat×Value) (fun x=>([(0,.int .i64 f),(2,.int .i64 m),(4,p1),(8,x.2),(14,.int .u64 (n:Nat)),(15,.int .u64 (x.1:Nat))],[ownH x.2 (iO LV f m p x.1),bL p1 2 1 (fun _=>pI p n)],[]))
  (fun x=>x.1≤n∧eQ x.2) (fun x=>n - x.1) rfl ?_ ?_
 ·exact bB (0,.slice none 0 0) ⟨Nat.zero_le _,eP⟩ trivial qF (aM (dG _ _ 14 fun i=>fG (([]:List Ht).getD i ht0)) (aD qS))
 rintro ⟨i,vo⟩ ⟨hi,hvo⟩
 simp only at hi hvo ⊢
 have hlen:=jK LV f m p i
 refine aO _ rfl (fun hlt=>?_) (fun hlt=>?_)
 ·have hin:i<n:=by omega
  refine aF 1 rfl hp1 ?_
  refine aB (u:=.int .u64 (p:Nat)) (e:=fun _=>pI p n) 1 rfl (aJ (aG _)) ?_
  refine ar rfl qI ?_
  rw [show ((p:Nat):Int)+((i:Nat):Int)=((p+i:Nat):Int) by omega]
  refine cF (hL.run f (p+i) m hf qN qN hm) ?_
  rintro _ _ _ ⟨rfl,x1,rfl,rfl⟩
  have hsucc:iO LV f m p (i+1)=iO LV f m p i++(if (LV f (p+i) m).h then [⟨p+i,LV f (p+i) m⟩] else []):=rfl
  generalize iO LV f m p i=H at *
  generalize LV f (p+i) m=L at *
  refine aI (d:=fY pS) fun p2 hp2=>?_
  refine bY (d:=fY L) 0 rfl hp2 rfl qK (aA qM) ?_
  refine aL rfl qN ?_
  refine aF 0 rfl hp2 ?_
  refine aB (u:=.bool L.h) 0 rfl (aC (aC (aC (aC (aC (aC (aG _))))))) ?_
  rcases Bool.eq_false_or_eq_true L.h with hh | hh
  ·rw [hh]
   rw [hh,if_pos rfl] at hsucc
   refine aF 2 rfl hp1 ?_
   refine aB (u:=.int .u64 (p:Nat)) (e:=fun _=>pI p n) 2 rfl (aJ (aG _)) ?_
   refine ar rfl qI ?_
   rw [show ((p:Nat):Int)+((i:Nat):Int)=((p+i:Nat):Int) by omega]
   refine aE (d:=fY L) 0 rfl hp2 rfl (oF _) fun u2=>?_
   refine dE [.one (.int .u64 ((p+i:Nat):Nat)),fY L] (by exact ⟨⟨aP rfl,rfl⟩,⟨aA qM,rfl⟩,trivial⟩) fun u3=>?_
   refine rG (size:=14) fG ht0 ⟨p+i,L⟩ qE (aA (d:=fG ⟨p+i,L⟩) qM) rfl fun l1=>?_
   refine eU 1 rfl hvo (cI qM) (by simp; omega) (by simp; omega) fun u4 hu4=>?_
   refine ar rfl qI ?_
   refine bB (i+1,u4) ⟨qO,hu4⟩ qO qF ?_
   rw [hsucc]
   exact dS (aD qS)
  ·rw [hh]
   rw [hh,if_neg qE,List.append_nil] at hsucc
   refine ar rfl qI ?_
   refine bB (i+1,vo) ⟨qO,hvo⟩ qO qF ?_
   rw [hsucc]
   exact dS (aD qS)
 ·obtain rfl:i=n:=by omega
  exact fin ⟨rfl,vo,rfl,rfl⟩ (aM (Seals.L 0 rfl hvo) (dS (aD qS)))
def spanE (x:Nat×Int):Dat:=pI x.1 x.2
theorem span0_rd (S:Nat→Prop) (w:World):RdC S w (pI 0 0) [.int .u64 0,.int .i64 0]:=⟨_,_,rfl,⟨rfl,rfl⟩,⟨rfl,rfl⟩⟩
instance tzSpan:iD Tryz.prog 189 (pI 0 0):=mQ infT189 fun S w=>span0_rd S w
instance iB190:TSl Tryz.prog 190 189 2:=⟨Tryz.underlying190,by kernel_rfl⟩
instance iB189:TEl Tryz.prog 189 2 16:=tel infT189 rfl qE
theorem sFind {LV:Int→Nat→Int→Lk7} (hL:mP LV) (f m:Int) (p n:Nat) (hf:0≤f∧f≤5) (hm:1≤m∧m≤128) (hp:4318952042648305664≤p) (hpn:p+n≤4652218415073722368) (hn:1≤n∧n≤4) :
  aY Tryz.prog 74 [.int .i64 f,.int .u64 (p:Nat),.int .i64 (n:Nat),.int .i64 m] [] (fun r os fs=>os=[]∧∃ x,r=.tuple #[x,.int .i64 0]∧fs=[(x,HD (iO LV f m p n))]):=by
 have hlen:=jK LV f m p n
 have hEa:=fun v=>sEach hL v f m p n hf hm hp hpn hn.2
 generalize iO LV f m p n=H at *
 refine mV Tryz.func74 ?_
 refine aL rfl qN ?_
 refine aL rfl qN ?_
 refine dE [.one (.int .u64 (p:Nat)),.one (.int .i64 (n:Nat))] (by exact ⟨⟨aP rfl,rfl⟩,⟨aP rfl,rfl⟩,trivial⟩) fun u1=>?_
 refine rG (size:=2) spanE (0,0) (p,(n:Int)) qE (aA (d:=pI p n) qM) rfl fun l1=>?_
 refine bD (X:=Nat×Value×Value) (fun x=>([(0,.int .i64 f),(3,.int .i64 m),(10,x.2.2),(11,x.2.1)],[ownH x.2.2 (if x.1=0 then [] else H)],[(x.2.1,LD 2 spanE (0,0) (if x.1=0 then [(p,(n:Int))] else []))]))
  (fun x=>x.1≤1∧eQ x.2.2) (fun x=>1 - x.1) rfl ?_ ?_
 ·exact bB (0,l1,.slice none 0 0) ⟨Nat.zero_le _,eP⟩ trivial qF (aM (dG _ _ 14 fun i=>fG (([]:List Ht).getD i ht0)) (aD qS))
 rintro ⟨k,ls,vo⟩ ⟨hk,hvo⟩
 simp only at hk hvo ⊢
 rcases (show k=0∨k=1 by omega) with rfl | rfl
 ·simp only [if_true]
  refine aS (v:=ls) (n:=1) (size:=2) qM fun _=>?_
  refine bG rfl qN ?_
  refine aS (v:=ls) (n:=1) (size:=2) qM fun _=>?_
  refine ar rfl qI ?_
  refine aZ (v:=ls) (n:=1) (size:=2) qM 0 qN qN fun a1=>?_
  refine cS (d:=pI p n) qM (ld_span _ _) fun u2=>?_
  refine aI (d:=pI 0 0) fun p2 hp2=>?_
  refine bY (d:=pI p n) 0 rfl hp2 rfl qK (aA qM) ?_
  refine aS (v:=ls) (n:=1) (size:=2) qM fun _=>?_
  refine ar rfl qI ?_
  refine n7 (v:=ls) (n:=1) (size:=2) qM 0 0 _ _ (kl:=.i64) (kh:=.i64) (.inl ⟨rfl,rfl⟩) (.inr (by congr 1)) (Nat.le_refl _) qN fun s2=>?_
  refine aF 0 rfl hp2 ?_
  refine aB (u:=.int .i64 (n:Nat)) 0 rfl (aC (aG _)) ?_
  refine bG rfl qN ?_
  refine aE (d:=pI p n) 0 rfl hp2 rfl (ld_span _ _) fun u3=>?_
  refine cF (hEa u3) ?_
  rintro _ _ _ ⟨rfl,x1,rfl,rfl⟩
  refine aL rfl qN ?_
  refine eU 1 rfl hvo (cI (d:=HD H) qM) (by simp; omega) (by simp; omega) fun u4 hu4=>?_
  rw [List.nil_append]
  have hkn:∀ {os:List Own} {fs:List bA} {el:Nat→Dat},(s2,Dat.sl 2 (0 - 0) el)∈fs→Knw os fs s2 (LD 2 spanE (0,0) []):=fun h=>Knw.sl_cong (cI h) fun i hi=>absurd hi (Nat.not_lt_zero _)
  exact bB (1,s2,u4) ⟨qO,hu4⟩ qO qF (dS (aM (Seals.add (hkn qM)) (aD qS)))
 ·simp only [Nat.one_ne_zero,if_false]
  refine aS (v:=ls) (n:=0) (size:=2) qM fun _=>?_
  refine aL rfl qN ?_
  exact fin ⟨rfl,vo,rfl,rfl⟩ (aM (Seals.L 0 rfl hvo) (aD qS))
theorem dCounts0 (v:Value) (e:Int) (he : -4000≤e∧e≤4000):aY Tryz.prog 67 [v] [(v,dyD 0 e)] (fun r os fs=>os=[]∧∃ x,r=.tuple #[x,.int .i64 0]∧fs=[(x,zd 0)]):=by
 refine mV Tryz.func67 ?_
 refine aQ (aA (d:=dyD 0 e) qM) fun p1 hp1=>?_
 refine aI (d:=zd 0) fun p2 hp2=>?_
 refine aF 1 rfl hp1 ?_
 refine aB (u:=.int .i64 e) 1 rfl (aC (aG _)) ?_
 refine aL rfl qN ?_
 refine aF 1 rfl hp1 ?_
 refine aB (u:=.int .i64 e) 1 rfl (aC (aG _)) ?_
 refine aL rfl qN ?_
 refine aF 1 rfl hp1 ?_
 refine aK (d:=zd 0) 1 rfl (aJ (aG _)) (aR _) fun u1=>?_
 refine cH (mY u1 0 1 (iG _) qE) ?_
 refine bG rfl qE ?_
 refine buildZ0 fun u2=>?_
 refine aH (d:=zd 0) 0 rfl hp2 rfl qK (aA (d:=zd 0) qM) ?_
 refine aE (d:=zd 0) 0 rfl hp2 rfl (aR _) fun r3=>?_
 exact fin ⟨rfl,r3,rfl,rfl⟩ (dS (dS (aD (fs':=[(r3,zd 0)]) qS)))
theorem dNorm0 (v:Value) (e:Int) (he : -4000≤e∧e≤4000):aY Tryz.prog 38 [v] [(v,dyD 0 e)] (fun r os fs=>os=[]∧fs=[(r,dyD 0 0)]):=by
 refine mV Tryz.func38 ?_
 refine aQ (aA (d:=dyD 0 e) qM) fun p1 hp1=>?_
 refine aI (d:=dyD 0 0) fun p2 hp2=>?_
 refine aE (d:=dyD 0 e) 1 rfl hp1 rfl (cB _ _) fun u1=>?_
 refine cF (dCounts0 u1 e he) ?_
 rintro _ _ _ ⟨rfl,xm,rfl,rfl⟩
 refine cG (dPlain0 xm 0) fun u2=>?_
 refine aH (d:=dyD 0 0) 0 rfl hp2 rfl qK (aA (d:=dyD 0 0) qM) ?_
 refine aE (d:=dyD 0 0) 0 rfl hp2 rfl (cB _ _) fun r3=>?_
 exact fin ⟨rfl,rfl⟩ (dS (dS (aD (fs':=[(r3,dyD 0 0)]) qS)))
theorem dOfA (v:Value) (m e:Int) (hm:sz m 60) (he : -1900≤e∧e≤1900):aY Tryz.prog 62 [v,.int .i64 e] [(v,zd m)] (fun r os fs=>os=[]∧fs=[(r,dyD (dnM m) (dnE m e))]):=by
 by_cases h:m=0
 ·subst h
  rw [show dnM 0=0 by unfold dnM; simp,show dnE 0 e=0 from if_pos rfl]
  refine mV Tryz.func62 ?_
  refine aQ (aA (d:=zd 0) qM) fun p1 hp1=>?_
  refine aI (d:=dyD 0 0) fun p2 hp2=>?_
  refine aE (d:=zd 0) 1 rfl hp1 rfl (aR _) fun u1=>?_
  refine dE [zd 0,.one (.int .i64 e)] (by exact ⟨⟨aA qM,rfl⟩,⟨dC rfl,rfl⟩,trivial⟩) fun u2=>?_
  refine cG (dNorm0 u2 e ⟨by omega,by omega⟩) fun u3=>?_
  refine aH (d:=dyD 0 0) 0 rfl hp2 rfl qK (aA (d:=dyD 0 0) qM) ?_
  refine aE (d:=dyD 0 0) 0 rfl hp2 rfl (cB _ _) fun r4=>?_
  exact fin ⟨rfl,rfl⟩ (dS (dS (aD (fs':=[(r4,dyD 0 0)]) qS)))
 ·exact dOfG v m e 60 ⟨hm,he.1,he.2,fun hz=>absurd hz h⟩ qE
def dyE (x:Int×Int):Dat:=dyD x.1 x.2
def lessD (a b:Int×Int):Prop:=jI a.1 a.2 b.2 - jI b.1 b.2 a.2<0
instance (a b:Int×Int):Decidable (lessD a b):=inferInstanceAs (Decidable (_<_))
def pE (f:Nat→Int×Int):Nat→Int×Int
 | 0=>f 0
 | n+1=>if lessD (f (n+1)) (pE f n) then f (n+1) else pE f n
theorem minD_ok {f:Nat→Int×Int} {a n:Nat} (h:∀ i,i<n→DyOk (f i).1 (f i).2 a):∀ i,i<n→DyOk (pE f i).1 (pE f i).2 a
 | 0,hi=>h 0 hi
 | i+1,hi=>by
  unfold pE
  split
  ·exact h _ hi
  ·exact minD_ok h i qN
theorem mMinD (v:Value) (n:Nat) (el:Nat→Dat) (f:Nat→Int×Int) (a:Nat) (hel:∀ i,i<n→el i=dyE (f i)) (hs:∀ i,i<n→DyOk (f i).1 (f i).2 a) (hn:1≤n∧n≤10000) (ha:a≤1000000) :
  aY Tryz.prog 63 [v,.func (.func 33) #[] #[]] [(v,.sl 3 n el)] (fun r os fs=>os=[]∧fs=[(r,dyE (pE f (n - 1)))]):=by
 refine mV Tryz.func63 ?_
 refine aI (d:=dyD 0 0) fun p1 hp1=>?_
 refine aS (n:=n) qM fun _=>?_
 refine aL rfl qN ?_
 refine aZ qM (0) rfl qN fun u1=>?_
 rw [hel 0 qN]
 refine cS (d:=dyE (f 0)) qM (cB _ _) fun u2=>?_
 refine aI (d:=dyD 0 0) fun p2 hp2=>?_
 refine aH (d:=dyE (f 0)) 0 rfl hp2 rfl qK (aA (d:=dyE (f 0)) qM) ?_
 refine bD (X:=Nat) (fun x=>([(0,v),(1,.func (.func 33) #[] #[]),(4,p1),(5,p2),(6,.int .i64 ((x+1:Nat):Int))],[bL p2 3 1 (fun _=>dyE (pE f x)),bL p1 3 1 (fun _=>dyD 0 0)],[(v,.sl 3 n el)])) (fun x=>x+1≤n) (fun x=>n - x) rfl ?_ ?_
 ·exact bB 0 qN trivial qF (aD qS)
 ·rintro x hx
  replace hx:x+1≤n:=hx
  refine aS (n:=n) qM fun _=>?_
  refine aO (((x+1:Nat):Int)<((n:Nat):Int)) rfl (fun hlt=>?_) (fun hlt=>?_)
  ·refine bC [0,1,2,3,4,5,6,7] [0,1,2,3,4,5,6,7] qK qK ?_
   refine aZ qM (x+1) rfl qN fun u3=>?_
   rw [hel (x+1) qN]
   refine cS (d:=dyE (f (x+1))) qM (cB _ _) fun u4=>?_
   refine aE (d:=dyE (pE f x)) 0 rfl hp2 rfl (cB _ _) fun u5=>?_
   refine cH (dCmp u4 u5 (f (x+1)).1 (f (x+1)).2 (pE f x).1 (pE f x).2 a (hs _ qN) (minD_ok hs x qN) qN) ?_
   refine aO ((jI (f (x+1)).1 (f (x+1)).2 (pE f x).2 - jI (pE f x).1 (pE f x).2 (f (x+1)).2).sign<0) rfl (fun hd=>?_) (fun hd=>?_)
   ·have he:f (x+1)=pE f (x+1):=(if_pos (Int.sign_neg_iff.mp hd:lessD (f (x+1)) (pE f x))).symm
    refine aZ qM (x+1) rfl qN fun u6=>?_
    rw [hel (x+1) qN,he]
    refine cS (d:=dyE (pE f (x+1))) qM (cB _ _) fun u7=>?_
    refine aH (d:=dyE (pE f (x+1))) 0 rfl hp2 rfl qK (aA (d:=dyE (pE f (x+1))) qM) ?_
    refine ar rfl qI ?_
    exact bB (x+1) qO qO qF (aD qS)
   ·have he:pE f x=pE f (x+1):=(if_neg (fun h:lessD (f (x+1)) (pE f x)=>hd (Int.sign_neg_iff.mpr h))).symm
    rw [he]
    refine ar rfl qI ?_
    exact bB (x+1) qO qO qF (aD qS)
  ·obtain rfl:n=x+1:=by omega
   refine aE (d:=dyE (pE f x)) 0 rfl hp2 rfl (cB _ _) fun u3=>?_
   refine aH (d:=dyE (pE f x)) 1 rfl hp1 rfl qK (aA (d:=dyE (pE f x)) qM) ?_
   refine aE (d:=dyE (pE f x)) 1 rfl hp1 rfl (cB _ _) fun r4=>?_
   exact fin ⟨rfl,rfl⟩ (dS (dS (aD (fs':=[(r4,dyE (pE f x))]) qS)))
structure HtOk (x:Lk7):Prop where
 ll:sz x.l 60
 mm:sz x.m 60
 s:0≤x.s∧x.s≤1500
 ls:x.l.natAbs≤2^(x.s.toNat+64)
 ms:x.m.natAbs≤2^(x.s.toNat+64)
theorem lowP_pow {m:Int} (h:m≠0):2^kV m≤m.natAbs:=by
 have h1:=(iL h).1
 rcases Nat.lt_or_ge m.natAbs (2^kV m) with hl | hl
 ·rw [Nat.div_eq_of_lt hl] at h1; simp at h1
 ·exact hl
theorem dn_ok {m s:Int} (hm:sz m 60) (hs:0≤s∧s≤1500) (hl:m.natAbs≤2^(s.toNat+64)):DyOk (dnM m) (dnE m (-s)) 60:=by
 by_cases h:m=0
 ·subst h
  rw [show dnM 0=0 by unfold dnM; simp,show dnE 0 (-s)=0 from if_pos rfl]
  exact ⟨iG _,by decide,by decide,fun _=>rfl⟩
 ·have h1:=lowP_pow h
  have h2:kV m≤s.toNat+64:=(Nat.pow_le_pow_iff_right (by decide:1<2)).1 (Nat.le_trans h1 hl)
  have h3:dnE m (-s) = -s+(kV m:Nat):=if_neg h
  rw [h3]
  refine ⟨m6 hm,by omega,by omega,fun hz=>?_⟩
  exfalso
  unfold dnM at hz
  have h4:=Int.mul_ediv_add_emod m (2^kV m)
  have hp:(0:Int)<2^kV m:=Int.pow_pos qE
  have h5:=Int.emod_lt_of_pos m hp
  have h6:=Int.emod_nonneg m (Int.ne_of_gt hp)
  rw [hz,Int.mul_zero,Int.zero_add] at h4
  rw [h4] at h5 h6
  have h7:((2^kV m:Nat):Int)=(2:Int)^kV m:=by simp
  rw [← h7] at h5
  omega
def dyL (h:Ht):Int×Int:=(dnM h.l.l,dnE h.l.l (-h.l.s))
def dyM (h:Ht):Int×Int:=(dnM h.l.m,dnE h.l.m (-h.l.s))
theorem dyL_ok {h:Ht} (o:HtOk h.l):DyOk (dyL h).1 (dyL h).2 60:=dn_ok o.ll o.s o.ls
theorem dyM_ok {h:Ht} (o:HtOk h.l):DyOk (dyM h).1 (dyM h).2 60:=dn_ok o.mm o.s o.ms
def brV (g:Ht→Int×Int) (l:List Ht):Int×Int:=if l=[] then (0,0) else pE (fun i=>g (l.getD i ht0)) (l.length - 1)
theorem hit0_rd (S:Nat→Prop) (w:World):RdC S w (fG ht0) [.int .u64 0,.bool false,.slice none 0 0,.bool false,.slice none 0 0,.int .i64 0,.int .i64 0,.int .i64 0,.int .i64 0,.bool false,.slice none 0 0,.bool false,.slice none 0 0,.bool false] :=
 ⟨_,_,rfl,⟨rfl,rfl⟩,look0_rd S w⟩
instance tzHit:iD Tryz.prog 46 (fG ht0):=mQ infT46 fun S w=>hit0_rd S w
theorem pU (h:Ht):gX Tryz.prog 46 (fG h):=(inferInstance:oL Tryz.prog 46 14)
theorem sBracket (v:Value) (l:List Ht) (hl:l.length≤2048) (hk:∀ h∈l,HtOk h.l):aY Tryz.prog 32 [v] [(v,HD l)] (fun r os fs=>os=[]∧∃ x y,r=.tuple #[x,y]∧fs=[(y,dyE (brV dyM l)),(x,dyE (brV dyL l))]):=by
 refine mV Tryz.func32 ?_
 refine aI (d:=dyD 0 0) fun p1 hp1=>?_
 refine aI (d:=dyD 0 0) fun p2 hp2=>?_
 refine aS (v:=v) (n:=l.length) (size:=14) qM fun _=>?_
 refine bD (X:=Nat×Value×Value) (fun x=>([(0,v),(2,p1),(3,p2),(4,x.2.1),(5,x.2.2),(8,v),(9,.int .i64 (l.length:Nat)),(10,.int .i64 (x.1:Nat))],[kU 3 dyE (0,0) x.2.1 ((l.take x.1).map dyL),kU 3 dyE (0,0) x.2.2 ((l.take x.1).map dyM),bL p2 3 1 (fun _=>dyD 0 0),bL p1 3 1 (fun _=>dyD 0 0)],[(v,HD l)]))
  (fun x=>x.1≤l.length∧eQ x.2.1∧eQ x.2.2) (fun x=>l.length - x.1) rfl ?_ ?_
 ·exact bB (0,.slice none 0 0,.slice none 0 0) ⟨Nat.zero_le _,eP,eP⟩ trivial qF (aM (dG _ _ 3 fun i=>dyE (([]:List (Int×Int)).getD i (0,0))) (aM (dG _ _ 3 fun i=>dyE (([]:List (Int×Int)).getD i (0,0))) (aD qS)))
 rintro ⟨i,va,vb⟩ ⟨hi,hva,hvb⟩
 simp only at hi hva hvb ⊢
 refine aO _ rfl (fun hlt=>?_) (fun hlt=>?_)
 ·have hil:i<l.length:=by omega
  have hta:(l.take (i+1)).map dyL=(l.take i).map dyL++[dyL (l.getD i ht0)]:=by
   rw [List.take_add_one,List.getElem?_eq_getElem hil,gE,List.getElem?_eq_getElem hil]; simp only [Option.toList_some,List.map_append,List.map_cons,List.map_nil]; rfl
  have htb:(l.take (i+1)).map dyM=(l.take i).map dyM++[dyM (l.getD i ht0)]:=by
   rw [List.take_add_one,List.getElem?_eq_getElem hil,gE,List.getElem?_eq_getElem hil]; simp only [Option.toList_some,List.map_append,List.map_cons,List.map_nil]; rfl
  have hho:=hk _ (eZ ht0 hil)
  have hs:=hho.s
  have hla:((l.take i).map dyL).length≤2048:=by simp; omega
  have hlb:((l.take i).map dyM).length≤2048:=by simp; omega
  refine aZ (v:=v) (n:=l.length) (size:=14) qM i rfl hil fun a1=>?_
  generalize hh:l.getD i ht0=h at *
  refine cS (d:=fG h) (by rw [← hh]; exact qM) (pU _) fun u1=>?_
  generalize (l.take i).map dyL=A at *
  generalize (l.take i).map dyM=B at *
  refine aI (d:=fG ht0) fun p3 hp3=>?_
  refine aH (d:=fG h) 0 rfl hp3 rfl qK (aA (d:=fG h) qM) ?_
  refine aF 0 rfl hp3 ?_
  refine bM hp3 ?_
  refine aK (d:=zd h.l.l) (e:=fun _=>fG h) 0 rfl (aC (aC (aC (aC (aC (aJ (aG _))))))) (aR _) fun u2=>?_
  refine aF 0 rfl hp3 ?_
  refine bM hp3 ?_
  refine aB (u:=.int .i64 h.l.s) (e:=fun _=>fG h) 0 rfl (aC (aC (aC (aC (aJ (aG _)))))) ?_
  refine oP (m := -h.l.s) (by rw [Int.zero_sub]; exact bT ⟨by omega,by omega⟩) ?_
  refine cG (dOfA u2 h.l.l (-h.l.s) hho.ll ⟨by omega,by omega⟩) fun u3=>?_
  refine rG (size:=3) dyE (0,0) (dyL h) qE (aA (d:=dyE (dyL h)) qM) rfl fun l1=>?_
  refine eU 1 rfl hva (cI qM) (by simp only [List.length_cons,List.length_nil]; omega) (by simp only [List.length_cons,List.length_nil]; omega) fun u4 hu4=>?_
  refine aF 0 rfl hp3 ?_
  refine bM hp3 ?_
  refine aK (d:=zd h.l.m) (e:=fun _=>fG h) 0 rfl (aC (aC (aC (aC (aC (aC (aJ (aG _)))))))) (aR _) fun u5=>?_
  refine aF 0 rfl hp3 ?_
  refine bM hp3 ?_
  refine aB (u:=.int .i64 h.l.s) (e:=fun _=>fG h) 0 rfl (aC (aC (aC (aC (aJ (aG _)))))) ?_
  refine oP (m := -h.l.s) (by rw [Int.zero_sub]; exact bT ⟨by omega,by omega⟩) ?_
  refine cG (dOfA u5 h.l.m (-h.l.s) hho.mm ⟨by omega,by omega⟩) fun u6=>?_
  refine rG (size:=3) dyE (0,0) (dyM h) qE (aA (d:=dyE (dyM h)) qM) rfl fun l2=>?_
  refine eU 2 rfl hvb (cI qM) (by simp only [List.length_cons,List.length_nil]; omega) (by simp only [List.length_cons,List.length_nil]; omega) fun u7 hu7=>?_
  refine ar rfl qI ?_
  refine bB (i+1,u4,u7) ⟨qO,hu4,hu7⟩ qO qF ?_
  simp only [hta,htb]
  exact dS (aD qS)
 ·obtain rfl:i=l.length:=by omega
  rw [List.take_length]
  refine aS (v:=v) (n:=l.length) (size:=14) qM fun _=>?_
  refine aO (((l.length:Nat):Int)=0) rfl (fun h0=>?_) (fun h0=>?_)
  ·obtain rfl:l=[]:=List.eq_nil_of_length_eq_zero qN
   refine dE [zd 0,.one (.int .i64 0)] (by exact ⟨fun S w=>jX S w,fun S w=>mO S w 0,trivial⟩) fun u1=>?_
   refine dE [zd 0,.one (.int .i64 0)] (by exact ⟨fun S w=>jX S w,fun S w=>mO S w 0,trivial⟩) fun u2=>?_
   refine aH (d:=dyD 0 0) 3 rfl hp1 rfl qK (aA (d:=dyD 0 0) qM) ?_
   refine aH (d:=dyD 0 0) 2 rfl hp2 rfl qK (aA (d:=dyD 0 0) qM) ?_
   refine aE (d:=dyD 0 0) 3 rfl hp1 rfl (cB _ _) fun r1=>?_
   refine aE (d:=dyD 0 0) 2 rfl hp2 rfl (cB _ _) fun r2=>?_
   exact fin ⟨rfl,r1,r2,rfl,rfl⟩ (dS (dS (dS (dS (aD (fs':=[(r2,dyD 0 0),(r1,dyD 0 0)]) qS)))))
  ·have hne:l≠[]:=fun e=>h0 (by rw [e]; rfl)
   have hgl:∀ g:Ht→Int×Int,∀ i,i<(l.map g).length→dyE ((l.map g).getD i (0,0))=dyE (g (l.getD i ht0)):=fun g i hi=>by
    have hi':i<l.length:=by simpa using hi
    simp [gE,hi']
   have hok:∀ i,i<l.length→HtOk (l.getD i ht0).l:=fun i hi=>hk _ (eZ ht0 hi)
   have hbr:∀ g,brV g l=pE (fun i=>g (l.getD i ht0)) ((l.map g).length - 1):=fun g=>by rw [List.length_map]; exact if_neg hne
   have e1:=mMinD va (l.map dyL).length (fun i=>dyE ((l.map dyL).getD i (0,0))) (fun i=>dyL (l.getD i ht0)) 60 (hgl dyL) (fun i hi=>dyL_ok (hok i (by simpa using hi))) (by rw [List.length_map]; omega) qE
   have e2:=mMinD vb (l.map dyM).length (fun i=>dyE ((l.map dyM).getD i (0,0))) (fun i=>dyM (l.getD i ht0)) 60 (hgl dyM) (fun i hi=>dyM_ok (hok i (by simpa using hi))) (by rw [List.length_map]; omega) qE
   rw [← hbr] at e1 e2
   generalize brV dyL l=X at *
   generalize brV dyM l=Y at *
   refine bN e1 (aM (Seals.L 0 rfl hva) (Seals.L 0 rfl hvb)) qS ?_
   rintro u1 _ _ ⟨rfl,rfl⟩
   refine cG e2 fun u2=>?_
   refine aH (d:=dyE X) 1 rfl hp1 rfl qK (aA (d:=dyE X) qM) ?_
   refine aH (d:=dyE Y) 0 rfl hp2 rfl qK (aA (d:=dyE Y) qM) ?_
   refine aE (d:=dyE X) 1 rfl hp1 rfl (cB _ _) fun r1=>?_
   refine aE (d:=dyE Y) 0 rfl hp2 rfl (cB _ _) fun r2=>?_
   exact fin ⟨rfl,r1,r2,rfl,rfl⟩ (dS (dS (aD (fs':=[(r2,dyE Y),(r1,dyE X)]) qS)))
def wrO (r:Nat) (sv:Value):Own:=bL (cN r) 1 1 (fun _=>.one sv)
theorem aU (r:Nat):g9 (cN r):=⟨r,rfl⟩
theorem jQ {fs:List bA} {K:cE} (r:Nat) (sv:Value) (l:List Nat) (rest:List Own) (n k:Nat) (hs:eQ sv) (hk:k≤8) (hn:n<18446744073709551616) (hl:l.length≤900000)
  (kk:∀ sv',eQ sv'→K (.tuple #[]) (wrO r sv'::kN sv' (l++leN n k)::rest) fs) :
  CallK Tryz.prog false (.func (.func 113) #[] #[]) [cN r,.int .u64 (n:Nat),.int .i64 (k:Nat)] (wrO r sv::kN sv l::rest) fs K:=by
 refine bX (args:=[cN r,.int .u64 (n:Nat),.int .i64 (k:Nat)]) (caps:=[]) Tryz.func113 qK rfl qK (Nat.le_of_ble_eq_true rfl) ?_
 refine bD (X:=Nat×Value) (fun x=>([(0,cN r),(1,.int .u64 (n:Nat)),(7,.int .i64 (k:Nat)),(8,.int .i64 (x.1:Nat))],wrO r x.2::kN x.2 (l++leN n x.1)::rest,fs)) (fun x=>x.1≤k∧eQ x.2) (fun x=>k - x.1) rfl ?_ ?_
 ·refine bB (0,sv) ⟨Nat.zero_le _,hs⟩ trivial qF ?_
  simp only [leN_zero,List.append_nil]
  exact aT _ _
 rintro ⟨i,vo⟩ ⟨hi,hvo⟩
 simp only at hi hvo ⊢
 refine aO _ rfl (fun hlt=>?_) (fun hlt=>?_)
 ·refine bC [0,1,2,3,4,5,6,7,8,9,10,11,12,13,14] [0,1,2,3,4,5,6,7,8,9,10,11,12,13,14] qK qK ?_
  refine aF 0 rfl (aU r) ?_
  refine aB (u:=vo) (e:=fun _=>.one vo) 0 rfl (aG _) ?_
  refine ar rfl qI ?_
  refine dJ n (8*i) (2^(8*i)) rfl qN rfl (by show 8*i≤64; omega) ?_
  refine bJ ⟨_,Tryz.underlying22⟩ Tryz.underlying5 _ (lT _) ?_
  refine lit_byte _ fun l1=>?_
  refine app_byte 1 rfl hvo qM (by simp [dO]; omega) fun u3 hu3=>?_
  refine aF 0 rfl (aU r) ?_
  refine cP 0 rfl (aU r) (cD (n:=.one u3) rfl) (aP (by obtain ⟨_,_,_,rfl⟩:=hu3; rfl)) ?_
  refine ar rfl qI ?_
  refine bB (i+1,u3) ⟨qO,hu3⟩ qO qF ?_
  simp only [tH,← List.append_assoc]
  exact aD (fun F hF=>.tail _ hF)
 ·obtain rfl:i=k:=by omega
  exact fin (kk vo hvo) (aT _ _)
theorem nD (x a b:Own) (r:List Own):(x::a::b::r).Perm (a::b::x::r):=(List.Perm.swap a x (b::r)).trans (.cons a (List.Perm.swap b x r))
def sgN (x:Int):Nat:=if x<0 then 1 else 0
def intB (x:Int):List Nat:=leN (sgN x) 1++leN (b9 x.natAbs).length 2++les (b9 x.natAbs)
theorem tF (n i:Nat) (h:i<(b9 n).length):(b9 n).getD i 0<18446744073709551616:=cK n _ (eZ 0 h)
theorem wInteger {fs:List bA} {K:cE} (r:Nat) (sv v:Value) (l:List Nat) (rest:List Own) (x:Int) (hx:sz x 4000) (hm:(v,zd x)∈fs) (hs:eQ sv) (hl:l.length≤800000)
  (kk:∀ sv',eQ sv'→K (.tuple #[]) (wrO r sv'::kN sv' (l++intB x)::rest) fs) :
  CallK Tryz.prog false (.func (.func 115) #[] #[]) [cN r,v] (wrO r sv::kN sv l::rest) fs K:=by
 have hlen:=hx.len
 refine bX (args:=[cN r,v]) (caps:=[]) Tryz.func115 qK rfl qK (Nat.le_of_ble_eq_true rfl) ?_
 refine aQ (aA (d:=zd x) hm) fun p1 hp1=>?_
 refine aE (d:=zd x) 0 rfl hp1 rfl (aR _) fun u1=>?_
 refine cG (zNormZ u1 x 4000 hx qE) fun u2=>?_
 refine aH (d:=zd x) 0 rfl hp1 rfl qK (aA (d:=zd x) qM) ?_
 refine aF 0 rfl hp1 ?_
 refine aB (u:=.bool (decide (x<0))) (e:=fun _=>zd x) 0 rfl (aJ (aG _)) ?_
 by_cases hx0:x<0
 ·rw [decide_eq_true hx0]
  have hsg:sgN x=1:=if_pos hx0
  ·refine cM (bK (nD _ _ _ _)) ?_
   refine jQ r sv l _ 1 1 hs qE qE qN fun sv1 hs1=>?_
   refine aF 2 rfl hp1 ?_
   refine aK (d:=U (b9 x.natAbs)) (e:=fun _=>zd x) 2 rfl (aC (aG _)) (show lG _ _ from inferInstance) fun u3=>?_
   refine aS (n:=(b9 x.natAbs).length) qM fun _=>?_
   refine bJ ⟨_,Tryz.underlying3⟩ Tryz.underlying22 (((b9 x.natAbs).length:Nat):Int) (by rw [dA]; omega) ?_
   refine jQ r sv1 _ _ (b9 x.natAbs).length 2 hs1 qE qN (by simp [dO]; omega) fun sv2 hs2=>?_
   refine aF 2 rfl hp1 ?_
   refine aK (d:=U (b9 x.natAbs)) (e:=fun _=>zd x) 2 rfl (aC (aG _)) (show lG _ _ from inferInstance) fun u4=>?_
   refine aS (n:=(b9 x.natAbs).length) qM fun _=>?_
   refine bD (X:=Nat×Value) (fun y=>([(0,cN r),(21,u4),(22,.int .i64 ((b9 x.natAbs).length:Nat)),(23,.int .i64 (y.1:Nat))],wrO r y.2::kN y.2 (l++leN 1 1++leN (b9 x.natAbs).length 2++les ((b9 x.natAbs).take y.1))::bL p1 2 1 (fun _=>zd x)::rest,(u4,U (b9 x.natAbs))::fs))
    (fun y=>y.1≤(b9 x.natAbs).length∧eQ y.2) (fun y=>(b9 x.natAbs).length - y.1) rfl ?_ ?_
   ·refine bB (0,sv2) ⟨Nat.zero_le _,hs2⟩ trivial qF ?_
    simp only [List.take_zero,les,List.flatMap_nil,List.append_nil]
    exact aD (fun F hF=>by
     rcases List.mem_cons.1 hF with rfl | hF
     ·exact .head _
     ·repeat (first | exact hF | apply List.Mem.tail))
   rintro ⟨i,vo⟩ ⟨hi,hvo⟩
   simp only at hi hvo ⊢
   refine aO _ rfl (fun hlt=>?_) (fun hlt=>?_)
   ·have hil:i<(b9 x.natAbs).length:=by omega
    have hb:(l++leN 1 1++leN (b9 x.natAbs).length 2++les ((b9 x.natAbs).take i)).length≤900000:=by
     simp only [List.length_append,dO,jT,List.length_take]; omega
    refine aZ (v:=u4) (n:=(b9 x.natAbs).length) (size:=1) (el:=fun i=>.one (.int .u64 ((b9 x.natAbs).getD i 0:Nat))) (.head _) i rfl hil fun a1=>?_
    refine bF (u:=.int .u64 ((b9 x.natAbs).getD i 0:Nat)) (.head _) ?_
    refine jQ r vo _ _ ((b9 x.natAbs).getD i 0) 8 hvo qE (tF _ _ hil) hb fun sv3 hs3=>?_
    refine ar rfl qI ?_
    refine bB (i+1,sv3) ⟨qO,hs3⟩ qO qF ?_
    simp only [tG hil,← List.append_assoc]
    exact aD (fun F hF=>.tail _ hF)
   ·obtain rfl:i=(b9 x.natAbs).length:=by omega
    rw [List.take_length]
    refine fin (kk vo hvo) ?_
    simp only [intB,hsg,← List.append_assoc]
    exact aM (aV 2 _ _) (aD (fun F hF=>.tail _ hF))
 ·rw [decide_eq_false hx0]
  have hsg:sgN x=0:=if_neg hx0
  ·refine cM (bK (nD _ _ _ _)) ?_
   refine jQ r sv l _ 0 1 hs qE qE qN fun sv1 hs1=>?_
   refine aF 2 rfl hp1 ?_
   refine aK (d:=U (b9 x.natAbs)) (e:=fun _=>zd x) 2 rfl (aC (aG _)) (show lG _ _ from inferInstance) fun u3=>?_
   refine aS (n:=(b9 x.natAbs).length) qM fun _=>?_
   refine bJ ⟨_,Tryz.underlying3⟩ Tryz.underlying22 (((b9 x.natAbs).length:Nat):Int) (by rw [dA]; omega) ?_
   refine jQ r sv1 _ _ (b9 x.natAbs).length 2 hs1 qE qN (by simp [dO]; omega) fun sv2 hs2=>?_
   refine aF 2 rfl hp1 ?_
   refine aK (d:=U (b9 x.natAbs)) (e:=fun _=>zd x) 2 rfl (aC (aG _)) (show lG _ _ from inferInstance) fun u4=>?_
   refine aS (n:=(b9 x.natAbs).length) qM fun _=>?_
   refine bD (X:=Nat×Value) (fun y=>([(0,cN r),(21,u4),(22,.int .i64 ((b9 x.natAbs).length:Nat)),(23,.int .i64 (y.1:Nat))],wrO r y.2::kN y.2 (l++leN 0 1++leN (b9 x.natAbs).length 2++les ((b9 x.natAbs).take y.1))::bL p1 2 1 (fun _=>zd x)::rest,(u4,U (b9 x.natAbs))::fs))
    (fun y=>y.1≤(b9 x.natAbs).length∧eQ y.2) (fun y=>(b9 x.natAbs).length - y.1) rfl ?_ ?_
   ·refine bB (0,sv2) ⟨Nat.zero_le _,hs2⟩ trivial qF ?_
    simp only [List.take_zero,les,List.flatMap_nil,List.append_nil]
    exact aD (fun F hF=>by
     rcases List.mem_cons.1 hF with rfl | hF
     ·exact .head _
     ·repeat (first | exact hF | apply List.Mem.tail))
   rintro ⟨i,vo⟩ ⟨hi,hvo⟩
   simp only at hi hvo ⊢
   refine aO _ rfl (fun hlt=>?_) (fun hlt=>?_)
   ·have hil:i<(b9 x.natAbs).length:=by omega
    have hb:(l++leN 0 1++leN (b9 x.natAbs).length 2++les ((b9 x.natAbs).take i)).length≤900000:=by
     simp only [List.length_append,dO,jT,List.length_take]; omega
    refine aZ (v:=u4) (n:=(b9 x.natAbs).length) (size:=1) (el:=fun i=>.one (.int .u64 ((b9 x.natAbs).getD i 0:Nat))) (.head _) i rfl hil fun a1=>?_
    refine bF (u:=.int .u64 ((b9 x.natAbs).getD i 0:Nat)) (.head _) ?_
    refine jQ r vo _ _ ((b9 x.natAbs).getD i 0) 8 hvo qE (tF _ _ hil) hb fun sv3 hs3=>?_
    refine ar rfl qI ?_
    refine bB (i+1,sv3) ⟨qO,hs3⟩ qO qF ?_
    simp only [tG hil,← List.append_assoc]
    exact aD (fun F hF=>.tail _ hF)
   ·obtain rfl:i=(b9 x.natAbs).length:=by omega
    rw [List.take_length]
    refine fin (kk vo hvo) ?_
    simp only [intB,hsg,← List.append_assoc]
    exact aM (aV 2 _ _) (aD (fun F hF=>.tail _ hF))
def dyB (d:Int×Int):List Nat:=intB d.1++leN (d.2+65536).toNat 4
theorem wDyad {fs:List bA} {K:cE} (r:Nat) (sv v:Value) (l:List Nat) (rest:List Own) (d:Int×Int) (hx:sz d.1 4000) (he : -65536≤d.2∧d.2<65536) (hm:(v,dyE d)∈fs) (hs:eQ sv) (hl:l.length≤700000)
  (kk:∀ sv',eQ sv'→K (.tuple #[]) (wrO r sv'::kN sv' (l++dyB d)::rest) fs) :
  CallK Tryz.prog false (.func (.func 116) #[] #[]) [cN r,v] (wrO r sv::kN sv l::rest) fs K:=by
 have hlen:=hx.len
 refine bX (args:=[cN r,v]) (caps:=[]) Tryz.func116 qK rfl qK (Nat.le_of_ble_eq_true rfl) ?_
 refine aQ (aA (d:=dyE d) hm) fun p1 hp1=>?_
 refine aF 0 rfl hp1 ?_
 refine aK (d:=zd d.1) (e:=fun _=>dyE d) 0 rfl (aJ (aG _)) (aR _) fun u1=>?_
 refine cM (bK (nD _ _ _ _)) ?_
 refine wInteger r sv u1 l _ d.1 hx (.head _) hs qN fun sv1 hs1=>?_
 have hb:(l++intB d.1).length≤900000:=by simp only [intB,List.length_append,dO,jT]; omega
 refine aF 2 rfl hp1 ?_
 refine aB (u:=.int .i64 d.2) (e:=fun _=>dyE d) 2 rfl (aC (aG _)) ?_
 refine ar rfl qI ?_
 refine bJ ⟨_,Tryz.underlying3⟩ Tryz.underlying22 (((d.2+65536).toNat:Nat):Int) (by rw [dA]; omega) ?_
 refine jQ r sv1 _ _ (d.2+65536).toNat 4 hs1 qE qN hb fun sv2 hs2=>?_
 refine fin (kk sv2 hs2) ?_
 simp only [dyB,← List.append_assoc]
 exact aM (aV 2 _ _) (aD (fun F hF=>.tail _ hF))
theorem xor_rule {P:Program} {t:TypeId} {x y:Operand} {z u:Int} (a b:Nat) {os:List Own} {fs:List bA} {K:cE} (hz:z=(a:Int)) (hu:u=(b:Int)) (ha:a<18446744073709551616) (hb:b<18446744073709551616)
  (h1:K (.int .u64 ((a ^^^ b:Nat):Int)) os fs):pC P .xor t x y (.int .u64 z) (.int .u64 u) os fs K:=by
 subst hz hu
 refine ⟨dD _ (fun w=>?_) h1⟩
 have hlt:a ^^^ b<2^64:=Nat.xor_lt_two_pow ha hb
 have hb':(BitVec.ofInt 64 (a:Int) ^^^ BitVec.ofInt 64 (b:Int)).toNat=a ^^^ b:=by
  rw [BitVec.toNat_xor]
  have e1:(BitVec.ofInt 64 (a:Int)).toNat=a:=by rw [BitVec.toNat_ofInt]; omega
  have e2:(BitVec.ofInt 64 (b:Int)).toNat=b:=by rw [BitVec.toNat_ofInt]; omega
  rw [e1,e2]
 have hd:∀ X Y:BitVec 64,(X ^^^ Y).toNat=a ^^^ b→IntKind.u64.wrap ((X ^^^ Y).toNat:Int)=((a ^^^ b:Nat):Int):=fun X Y h=>by
  rw [h]; exact bT ⟨Int.natCast_nonneg _,by omega⟩
 simp only [eqGuard,binOp,Op.intBits,Sem.run_bind,Sem.run_pure,Result.andThen_ok,IntKind.bits,ne_eq,not_true,if_false]
 exact congrArg (fun n=>Result.ok (Value.int .u64 n) w) (hd _ _ hb')
def sumS (h c:Nat):Nat:=(h ^^^ c)*1099511628211%18446744073709551616
def oX (h:Nat) (l:List Nat):Nat:=l.foldl sumS h
def sW:Nat:=14695981039346656037
theorem sumS_lt (h c:Nat):sumS h c<18446744073709551616:=by unfold sumS; omega
theorem sumV_nil (h:Nat):oX h []=h:=rfl
theorem sumV_cons (h c:Nat) (r:List Nat):oX h (c::r)=oX (sumS h c) r:=rfl
theorem q9 (l:List Nat):∀ h:Nat,h<18446744073709551616→oX h l<18446744073709551616:=by
 induction l with
 | nil=>intro h hh; rw [sumV_nil]; exact hh
 | cons c r ih=>intro h _; rw [sumV_cons]; exact ih _ (sumS_lt h c)
theorem foldl_take {f:Nat→Nat→Nat} {l:List Nat} {i h:Nat} (hi:i<l.length):(l.take (i+1)).foldl f h=f ((l.take i).foldl f h) (l.getD i 0):=by
 rw [List.take_add_one,List.getElem?_eq_getElem hi,List.foldl_append,gE,List.getElem?_eq_getElem hi]
 rfl
theorem sumV_take {l:List Nat} {i h:Nat} (hi:i<l.length):oX h (l.take (i+1))=sumS (oX h (l.take i)) (l.getD i 0):=foldl_take hi
theorem cSum (v:Value) (l:List Nat) (hb:∀ n∈l,n<256) (hl:l.length≤1000000):aY Tryz.prog 19 [v] [(v,BD l)] (fun r os fs=>os=[]∧fs=[]∧r=.int .u64 (oX sW l:Nat)):=by
 refine mV Tryz.func19 ?_
 refine aS (v:=v) (n:=l.length) (size:=1) qM fun _=>?_
 refine bD (X:=Nat) (fun i=>([(3,.int .u64 (oX sW (l.take i):Nat)),(6,v),(7,.int .i64 (l.length:Nat)),(8,.int .i64 (i:Nat))],[],[(v,BD l)])) (fun i=>i≤l.length) (fun i=>l.length - i) rfl ?_ ?_
 ·refine bB 0 (Nat.zero_le _) trivial ?_ (aD qS)
  simp only [List.take_zero,oX,List.foldl_nil,sW]
  exact qF
 intro i hi
 replace hi:i≤l.length:=hi
 refine aO _ rfl (fun hlt=>?_) (fun hlt=>?_)
 ·have hil:i<l.length:=by omega
  have hc:l.getD i 0<256:=hb _ (eZ 0 hil)
  have hs:oX sW (l.take i)<18446744073709551616:=q9 _ _ (by unfold sW; omega)
  have hsu:=sumV_take (h:=sW) hil
  refine aZ (v:=v) (n:=l.length) (size:=1) qM i rfl hil fun a1=>?_
  refine bF (u:=.int .u8 (l.getD i 0:Nat)) qM ?_
  generalize l.getD i 0=c at *
  generalize oX sW (l.take i)=h at *
  refine bJ ⟨_,Tryz.underlying5⟩ Tryz.underlying22 ((c:Nat):Int) (by rw [dA]; omega) ?_
  refine xor_rule h c rfl rfl hs qN ?_
  refine dQ (n:=((h ^^^ c:Nat):Int)*1099511628211) rfl ((sumS h c:Nat):Int) (by rw [dA]; unfold sumS; omega) ?_
  generalize sumS h c=h2 at *
  refine ar rfl qI ?_
  refine bB (i+1) qO qO ?_ (aD qS)
  simp only [hsu]
  exact qF
 ·obtain rfl:i=l.length:=by omega
  rw [List.take_length]
  exact fin ⟨rfl,rfl,rfl⟩ (aD qS)
structure HtC (x:Lk7):Prop where
 k : -65536≤x.k∧x.k<65536
 q:0≤x.b.q∧x.b.q≤2048
 lo:sz x.b.lo 64
 hi:sz x.b.hi 64
 bl:bH x.b.lo.natAbs≤4096
 bh:bH x.b.hi.natAbs≤4096
theorem cMay (v:Value) (h:Ht) (c:HtC h.l):aY Tryz.prog 114 [v] [(v,fG h)] (fun r os fs=>os=[]∧fs=[]∧r=.bool true):=by
 have h1:=c.k; have h2:=c.q; have h3:=c.bl; have h4:=c.bh
 refine mV Tryz.func114 ?_
 refine aQ (aA (d:=fG h) qM) fun p1 hp1=>?_
 refine aF 0 rfl hp1 ?_
 refine bM hp1 ?_
 refine aK (d:=aN h.l.b.lo h.l.b.hi h.l.b.q) (e:=fun _=>fG h) 0 rfl (aC (aJ (aG _))) (bR _ _ _) fun u1=>?_
 refine aI (d:=aN 0 0 0) fun p2 hp2=>?_
 refine aH (d:=aN h.l.b.lo h.l.b.hi h.l.b.q) 0 rfl hp2 rfl qK (aA (d:=aN h.l.b.lo h.l.b.hi h.l.b.q) qM) ?_
 refine aF 1 rfl hp1 ?_
 refine bM hp1 ?_
 refine aB (u:=.int .i64 h.l.k) (e:=fun _=>fG h) 1 rfl (aC (aC (aJ (aG _)))) ?_
 refine bG rfl qN ?_
 refine aF 1 rfl hp1 ?_
 refine bM hp1 ?_
 refine aB (u:=.int .i64 h.l.k) (e:=fun _=>fG h) 1 rfl (aC (aC (aJ (aG _)))) ?_
 refine bG rfl qN ?_
 refine aF 0 rfl hp2 ?_
 refine aB (u:=.int .i64 h.l.b.q) (e:=fun _=>aN h.l.b.lo h.l.b.hi h.l.b.q) 0 rfl (aC (aC (aG _))) ?_
 refine bG rfl qN ?_
 refine aF 0 rfl hp2 ?_
 refine aB (u:=.int .i64 h.l.b.q) (e:=fun _=>aN h.l.b.lo h.l.b.hi h.l.b.q) 0 rfl (aC (aC (aG _))) ?_
 refine bG rfl qN ?_
 refine aF 0 rfl hp2 ?_
 refine aK (d:=zd h.l.b.lo) (e:=fun _=>aN h.l.b.lo h.l.b.hi h.l.b.q) 0 rfl (aJ (aG _)) (aR _) fun u2=>?_
 refine cH (tO u2 h.l.b.lo 64 c.lo qE) ?_
 refine bG rfl qN ?_
 refine aF 0 rfl hp2 ?_
 refine aK (d:=zd h.l.b.hi) (e:=fun _=>aN h.l.b.lo h.l.b.hi h.l.b.q) 0 rfl (aC (aJ (aG _))) (aR _) fun u3=>?_
 refine cH (tO u3 h.l.b.hi 64 c.hi qE) ?_
 refine bG rfl qN ?_
 exact fin ⟨rfl,rfl,rfl⟩ (dS (dS (aD qS)))
theorem qG {P:Program} {d:Bool} {g:FuncId} {args:List Value} {os os₁:List Own} {fs fs₁ cfs:List bA} {K:cE} {R:Value→List Own→List bA→Prop}
  (hm:aY P g args cfs R) (hs:Seals os fs os₁ fs₁) (hsub:Sub cfs fs₁)
  (k:∀ v os' fs',R v os' fs'→K v os fs):CallK P d (.func (.func g) #[] #[]) args os fs K:=by
 have key:Grw P (do let x ← Deferred.ofValue (.func (.func g) #[] #[]) args.toArray; invoke x.target x.args) os fs K:=by
  intro G w hw0
  have hw:=hs G w hw0
  have hrun:(do let x ← Deferred.ofValue (.func (.func g) #[] #[]) args.toArray; invoke x.target x.args:Sem Next).run P w =
    .ok (.enter g args.toArray) w:=by
   simp only [Deferred.ofValue,pure_bind,invoke]
   simpa using hm.enter args.toArray w
  rw [hrun]
  refine Calls.mono (hm.calls (fun b=>G.A b∨eW os₁ b) w (fun b hb=>?_) ?_) ?_
  ·rcases hb with hb | hb
   ·exact (hw.low b hb).1
   ·exact (hw.owned_lt hb).2
  ·refine (hw.weaken_facts hsub).facts.mono (fun _ _=>rfl) fun b ⟨h1,h2,h3⟩=>⟨h1,fun h=>h.elim h2 h3⟩
  ·rintro e w' ⟨v,os',fs',rfl,hr,hh⟩
   exact ⟨v,rfl,hh.below,os,fs,k v os' fs' hr,hw0.grow hh.below⟩
 exact ⟨key.dyn,fun _=>key⟩
def hitB (h:Ht):List Nat:=leN h.b 8++leN (h.l.k+65536).toNat 4++leN h.l.b.q.toNat 4++intB h.l.b.lo++intB h.l.b.hi
def hdrC:List Nat:=[72,65,73,82,67,69,82,84]
def kK (l:List Ht):List Nat:=l.flatMap hitB
def rP (j:Jb) (l:List Ht):List Nat:=hdrC++gL j++leN l.length 4++kK l++dyB (brV dyL l)++dyB (brV dyM l)
def qB (j:Jb) (l:List Ht):List Nat:=rP j l++leN (oX sW (rP j l)) 8
theorem sG {g:Ht→Int×Int} {l:List Ht} (h:∀ x∈l,DyOk (g x).1 (g x).2 60):DyOk (brV g l).1 (brV g l).2 60:=by
 unfold brV
 split
 ·exact ⟨iG _,by decide,by decide,fun _=>rfl⟩
 ·rename_i hne
  have:l.length≠0:=fun e=>hne (List.eq_nil_of_length_eq_zero e)
  exact minD_ok (n:=l.length) (fun i hi=>h _ (eZ ht0 hi)) _ qN
theorem mD {x:Int} {a:Nat} (h:sz x a):(intB x).length≤3+8*a:=by
 have:=h.len
 simp only [intB,List.length_append,dO,jT]; omega
theorem hitB_len {h:Ht} (c:HtC h.l):(hitB h).length≤1046:=by
 have h1:=mD c.lo
 have h2:=mD c.hi
 simp only [hitB,List.length_append,dO]; omega
theorem uY:∀ {l:List Ht},(∀ h∈l,HtC h.l)→(kK l).length≤1046*l.length
 | [],_=>Nat.le_refl _
 | h::r,c=>by
  have h1:=hitB_len (c h (List.mem_cons_self ..))
  have h2:=uY (l:=r) fun x hx=>c x (List.mem_cons_of_mem _ hx)
  show (hitB h++kK r).length≤_
  rw [List.length_append,List.length_cons]; omega
theorem hitsB_take {l:List Ht} {i:Nat} (h:i<l.length):kK (l.take (i+1))=kK (l.take i)++hitB (l.getD i ht0):=by
 rw [List.take_add_one,List.getElem?_eq_getElem h]
 simp only [Option.toList_some,kK,List.flatMap_append,List.flatMap_cons,List.flatMap_nil,List.append_nil]
 rw [gE,List.getElem?_eq_getElem h]; rfl
def Byt (l:List Nat):Prop:=∀ n∈l,n<256
theorem Byt.app {a b:List Nat} (h:Byt a) (g:Byt b):Byt (a++b):=fun n hn=>(List.mem_append.1 hn).elim (h n) (g n)
theorem iB (n k:Nat):Byt (leN n k):=leN_lt n k
theorem nT (l:List Nat):Byt (les l):=fun n hn=>by
 obtain ⟨x,_,hx⟩:=List.mem_flatMap.1 hn
 exact leN_lt _ _ _ hx
theorem lC (x:Int):Byt (intB x):=((iB _ _).app (iB _ _)).app (nT _)
theorem byt_hit (h:Ht):Byt (hitB h):=((((iB _ _).app (iB _ _)).app (iB _ _)).app (lC _)).app (lC _)
theorem qH (l:List Ht):Byt (kK l):=fun n hn=>by
 obtain ⟨x,_,hx⟩:=List.mem_flatMap.1 hn
 exact byt_hit _ _ hx
theorem nU (d:Int×Int):Byt (dyB d):=(lC _).app (iB _ _)
theorem byt_job (j:Jb):Byt (gL j):=Byt.app (by unfold Byt hdrJ; decide) (nT _)
theorem byt_body (j:Jb) (l:List Ht):Byt (rP j l):=(((((show Byt hdrC by unfold Byt hdrC; decide).app (byt_job j)).app (iB _ _)).app (qH _)).app (nU _)).app (nU _)
theorem perm4 (x y a b:Own) (r:List Own):(x::y::a::b::r).Perm (a::b::x::y::r):=(List.Perm.cons x (nD y a b r)).trans (nD x a b (y::r))
def qX (l:List Ht):Prop:=l.length≤64∧∀ h∈l,HtOk h.l∧HtC h.l∧h.b<18446744073709551616
set_option maxHeartbeats 1600000 in
theorem cWrite (v w:Value) (j:Jb) (l:List Ht) (hj:j.ok) (hl:qX l):aY Tryz.prog 77 [v,w] [(v,cO j),(w,HD l)] (fun r os fs=>os=[]∧∃ x,r=.tuple #[x,.int .i64 0]∧fs=[(x,BD (qB j l))]):=by
 obtain ⟨hlen,hk⟩:=hl
 have hjl:=kB j
 refine mV Tryz.func77 ?_
 refine aQ (aA (d:=cO j) qM) fun p1 hp1=>?_
 refine aS (v:=w) (n:=l.length) (size:=14) qM fun _=>?_
 refine aL rfl qN ?_
 refine kH hdrC rfl rfl qE fun v1 hv1=>?_
 refine kA Tryz.underlying5 0 rfl hv1 qE ?_
 refine aE (d:=cO j) 1 rfl hp1 rfl cZ fun u1=>?_
 refine cG (jBytes u1 j hj) fun u2=>?_
 refine eU (l:=hdrC) 0 rfl hv1 (cI (d:=BD (gL j)) qM) (by rw [hjl]; decide) (by rw [hjl]; decide) fun v2 hv2=>?_
 have hb2:(hdrC++gL j).length=56:=by rw [List.length_append,hjl]; rfl
 refine vN (by obtain ⟨_,_,_,rfl⟩:=hv2; rfl) ?_
 refine aQ (reads_agg1 v2 (by obtain ⟨_,_,_,rfl⟩:=hv2; rfl)) fun p3 hp3=>?_
 obtain ⟨r,rfl⟩:=hp3
 refine aS (v:=w) (n:=l.length) (size:=14) qM fun _=>?_
 refine bJ ⟨_,Tryz.underlying3⟩ Tryz.underlying22 ((l.length:Nat):Int) (by rw [dA]; omega) ?_
 refine jQ r v2 (hdrC++gL j) [bL p1 5 1 (fun _=>cO j)] l.length 4 hv2 qE qN qN fun v3 hv3=>?_
 have hb3:(hdrC++gL j++leN l.length 4).length=60:=by rw [List.length_append,hb2,dO]
 have hbody:rP j l=hdrC++gL j++leN l.length 4++kK l++dyB (brV dyL l)++dyB (brV dyM l):=rfl
 generalize hdrC++gL j++leN l.length 4=B at *
 refine aS (v:=w) (n:=l.length) (size:=14) qM fun _=>?_
 refine bD (X:=Nat×Value) (fun x=>([(1,w),(6,cN r),(26,w),(27,.int .i64 (l.length:Nat)),(28,.int .i64 (x.1:Nat))],[wrO r x.2,kN x.2 (B++kK (l.take x.1)),bL p1 5 1 (fun _=>cO j)],[(w,HD l)])) (fun x=>x.1≤l.length∧eQ x.2) (fun x=>l.length - x.1) rfl ?_ ?_
 ·refine bB (0,v3) ⟨Nat.zero_le _,hv3⟩ trivial qF ?_
  simp only [List.take_zero,kK,List.flatMap_nil,List.append_nil]
  exact aD qS
 rintro ⟨i,vo⟩ ⟨hi,hvo⟩
 simp only at hi hvo ⊢
 have hbi:(kK (l.take i)).length≤1046*64:=by
  have:=uY (l:=l.take i) fun x hx=>(hk x (List.mem_of_mem_take hx)).2.1
  rw [List.length_take] at this
  omega
 refine aO _ rfl (fun hlt=>?_) (fun hlt=>?_)
 ·have hil:i<l.length:=by omega
  have hta:=hitsB_take hil
  obtain ⟨_,hc,hbb⟩:=hk _ (eZ ht0 hil)
  refine aZ (v:=w) (n:=l.length) (size:=14) qM i rfl hil fun a1=>?_
  generalize hh:l.getD i ht0=h at *
  refine cS (d:=fG h) (by rw [← hh]; exact qM) (pU _) fun u3=>?_
  generalize kK (l.take i)=H at *
  have hk1:=hc.k
  have hq1:=hc.q
  have hl1:=mD hc.lo
  refine aI (d:=fG ht0) fun p4 hp4=>?_
  refine aH (d:=fG h) 0 rfl hp4 rfl qK (aA (d:=fG h) qM) ?_
  refine aE (d:=fG h) 0 rfl hp4 rfl (pU _) fun u4=>?_
  refine cH (cMay u4 h hc) ?_
  refine aF 0 rfl hp4 ?_
  refine aB (u:=.int .u64 (h.b:Nat)) (e:=fun _=>fG h) 0 rfl (aJ (aG _)) ?_
  refine cM (bK (nD _ _ _ _)) ?_
  refine jQ r vo (B++H) _ h.b 8 hvo qE hbb (by simp only [List.length_append]; omega) fun s1 hs1=>?_
  refine aF 2 rfl hp4 ?_
  refine bM hp4 ?_
  refine aB (u:=.int .i64 h.l.k) (e:=fun _=>fG h) 2 rfl (aC (aC (aJ (aG _)))) ?_
  refine ar rfl qI ?_
  refine bJ ⟨_,Tryz.underlying3⟩ Tryz.underlying22 (((h.l.k+65536).toNat:Nat):Int) (by rw [dA]; omega) ?_
  refine jQ r s1 _ _ (h.l.k+65536).toNat 4 hs1 qE qN (by simp only [List.length_append,dO]; omega) fun s2 hs2=>?_
  refine aF 2 rfl hp4 ?_
  refine bM hp4 ?_
  refine bM hp4 ?_
  refine aB (u:=.int .i64 h.l.b.q) (e:=fun _=>fG h) 2 rfl (aC (aJ (aC (aC (aG _))))) ?_
  refine bJ ⟨_,Tryz.underlying3⟩ Tryz.underlying22 ((h.l.b.q.toNat:Nat):Int) (by rw [dA]; omega) ?_
  refine jQ r s2 _ _ h.l.b.q.toNat 4 hs2 qE qN (by simp only [List.length_append,dO]; omega) fun s3 hs3=>?_
  refine aF 2 rfl hp4 ?_
  refine bM hp4 ?_
  refine bM hp4 ?_
  refine aK (d:=zd h.l.b.lo) (e:=fun _=>fG h) 2 rfl (aC (aJ (aJ (aG _)))) (aR _) fun u5=>?_
  refine wInteger r s3 u5 _ _ h.l.b.lo (hc.lo.mono qE) (.head _) hs3 (by simp only [List.length_append,dO]; omega) fun s4 hs4=>?_
  refine aF 2 rfl hp4 ?_
  refine bM hp4 ?_
  refine bM hp4 ?_
  refine aK (d:=zd h.l.b.hi) (e:=fun _=>fG h) 2 rfl (aC (aJ (aC (aJ (aG _))))) (aR _) fun u6=>?_
  refine wInteger r s4 u6 _ _ h.l.b.hi (hc.hi.mono qE) (.head _) hs4 (by simp only [List.length_append,dO]; omega) fun s5 hs5=>?_
  refine ar rfl qI ?_
  refine bB (i+1,s5) ⟨qO,hs5⟩ qO qF ?_
  simp only [hta,hitB,← List.append_assoc]
  exact aM (aV 2 _ _) (aD qS)
 ·obtain rfl:i=l.length:=by omega
  rw [List.take_length] at hbi ⊢
  have hX:=sG (g:=dyL) fun x hx=>dyL_ok (hk x hx).1
  have hY:=sG (g:=dyM) fun x hx=>dyM_ok (hk x hx).1
  have hBr:=sBracket w l qN fun x hx=>(hk x hx).1
  have hbb:=byt_body j l
  have hcb:qB j l=rP j l++leN (oX sW (rP j l)) 8:=rfl
  rw [hcb]
  rw [hbody] at hbb ⊢
  generalize brV dyL l=X at *
  generalize brV dyM l=Y at *
  have x0:=hX.e0; have x1:=hX.e1; have y0:=hY.e0; have y1:=hY.e1
  have hlx:=mD hX.sm
  have hly:=mD hY.sm
  refine cF hBr ?_
  rintro _ _ _ ⟨rfl,x,y,rfl,rfl⟩
  refine aI (d:=dyD 0 0) fun p5 hp5=>?_
  refine aI (d:=dyD 0 0) fun p6 hp6=>?_
  refine aH (d:=dyE X) 1 rfl hp5 rfl qK (aA (d:=dyE X) qM) ?_
  refine aH (d:=dyE Y) 0 rfl hp6 rfl qK (aA (d:=dyE Y) qM) ?_
  refine aF 1 rfl hp5 ?_
  refine aB (u:=.int .i64 X.2) (e:=fun _=>dyE X) 1 rfl (aC (aG _)) ?_
  refine aF 0 rfl hp6 ?_
  refine aB (u:=.int .i64 Y.2) (e:=fun _=>dyE Y) 0 rfl (aC (aG _)) ?_
  refine nK ?_
  refine aL rfl qN ?_
  refine aF 1 rfl hp5 ?_
  refine aB (u:=.int .i64 X.2) (e:=fun _=>dyE X) 1 rfl (aC (aG _)) ?_
  refine aF 0 rfl hp6 ?_
  refine aB (u:=.int .i64 Y.2) (e:=fun _=>dyE Y) 0 rfl (aC (aG _)) ?_
  refine gJ ?_
  refine aL rfl qN ?_
  refine aE (d:=dyE X) (e:=fun _=>dyE X) 1 rfl hp5 rfl (cB _ _) fun u7=>?_
  refine cM (bK (perm4 _ _ _ _ _)) ?_
  refine wDyad r vo u7 _ _ X (hX.sm.mono qE) ⟨by omega,by omega⟩ (.head _) hvo (by simp only [List.length_append]; omega) fun s1 hs1=>?_
  refine aE (d:=dyE Y) (e:=fun _=>dyE Y) 2 rfl hp6 rfl (cB _ _) fun u8=>?_
  refine wDyad r s1 u8 _ _ Y (hY.sm.mono qE) ⟨by omega,by omega⟩ (.head _) hs1 (by simp only [List.length_append,dyB,dO]; omega) fun s2 hs2=>?_
  have hlen2:(B++kK l++dyB X++dyB Y).length≤100000:=by simp only [List.length_append,dyB,dO]; omega
  have hsl:oX sW (B++kK l++dyB X++dyB Y)<18446744073709551616:=q9 _ _ (by unfold sW; omega)
  generalize B++kK l++dyB X++dyB Y=D at *
  have hsum:=cSum s2 D hbb qN
  generalize oX sW D=sv at *
  refine aF 0 rfl (aU r) ?_
  refine aB (u:=s2) (e:=fun _=>.one s2) 0 rfl (aG _) ?_
  refine qG hsum (Seals.B 1 rfl hs2) (aX (.head _) (bP _)) ?_
  rintro _ _ _ ⟨_,_,rfl⟩
  refine jQ r s2 D _ sv 8 hs2 qE hsl qN fun s3 hs3=>?_
  refine aF 0 rfl (aU r) ?_
  refine aB (u:=s3) (e:=fun _=>.one s3) 0 rfl (aG _) ?_
  exact fin ⟨rfl,s3,rfl,rfl⟩ (dS (aM (Seals.B 0 rfl hs3) (dS (dS (dS (aD qS))))))
class TIK (P:Program) (k:TypeId):Prop where
 key:∀ x:Int,inK .i64 x→isKey P k (.int .i64 x)
section
variable {α:Type}
def spN (t:Nat×α):Value:=.int .i64 (t.1:Nat)
def NdN (L:List (Nat×α)):Prop:=L.Pairwise fun s t=>s.1≠t.1
def InN (L:List (Nat×α)):Prop:=∀ t,t∈L→t.1<1073741824
def lkN (z:α) (L:List (Nat×α)) (i:Nat):α:=((L.find? fun t=>t.1==i).map fun t=>t.2).getD z
def lL (z:α) (L:List (Nat×α)) (i:Nat):Value:=spN (L.getD i (0,z))
def mapEN (f:α→Dat) (z:α) (L:List (Nat×α)) (i:Nat):Dat:=f (L.getD i (0,z)).2
def e9 (f:α→Dat) (z:α) (v:Value) (L:List (Nat×α)):Own:=rD v L.length (lL z L) (mapEN f z L)
theorem uP {P:Program} {k:TypeId} [TIK P k] {z:α} {L:List (Nat×α)} (h:InN L) (i:Nat) (hi:i<L.length):isKey P k (lL z L i):=by
 have hm:L.getD i (0,z)∈L:=by rw [gE,List.getElem?_eq_getElem hi]; exact List.getElem_mem hi
 have:=h _ hm
 exact TIK.key _ ⟨by omega,by omega⟩
theorem mapKN_eq {z:α} {L:List (Nat×α)} {i a:Nat} (h:lL z L i=.int .i64 (a:Nat)):(L.getD i (0,z)).1=a:=by
 simp only [lL,spN,Value.int.injEq,true_and] at h
 omega
theorem lkN_some {z:α} {L:List (Nat×α)} {i:Nat}:(∃ n,n<L.length∧lL z L n=.int .i64 (i:Nat)∧lkN z L i=(L.getD n (0,z)).2)∨((∀ n,n<L.length→lL z L n≠.int .i64 (i:Nat))∧lkN z L i=z):=by
 unfold lkN
 cases hf:L.find? fun t=>t.1==i with
 | none =>
  refine .inr ⟨fun n hn e=>?_,rfl⟩
  have e1:=mapKN_eq e
  have hm:L.getD n (0,z)∈L:=by rw [gE,List.getElem?_eq_getElem hn]; exact List.getElem_mem hn
  have:=List.find?_eq_none.1 hf _ hm
  rw [e1] at this
  simp at this
 | some t =>
  have h1:=List.find?_some hf
  obtain ⟨n,hn,e⟩:=List.mem_iff_getElem.1 (List.mem_of_find?_eq_some hf)
  have hg:L.getD n (0,z)=t:=by rw [gE,List.getElem?_eq_getElem hn]; exact e
  simp only [beq_iff_eq] at h1
  refine .inl ⟨n,hn,?_,by rw [hg]; rfl⟩
  unfold lL
  rw [hg]
  unfold spN
  rw [h1]
theorem NdN.one {z:α} {L:List (Nat×α)} (h:NdN L) {m n:Nat} (hm:m<L.length) (hn:n<L.length) (e:lL z L m=lL z L n):m=n:=by
 simp only [lL,spN,Value.int.injEq,true_and,gE,List.getElem?_eq_getElem hm,List.getElem?_eq_getElem hn,Option.getD_some] at e
 have e1:L[m].1=L[n].1:=by omega
 rcases Nat.lt_trichotomy m n with hlt | rfl | hgt
 ·exact absurd e1 (List.pairwise_iff_getElem.1 h m n hm hn hlt)
 ·rfl
 ·exact absurd e1.symm (List.pairwise_iff_getElem.1 h n m hn hm hgt)
theorem get_own_N {P:Program} {t k e:TypeId} [ht:TMap P t k e] [TIK P k] {f:α→Dat} {z:α} [hz:TZeroV P e (f z)] {v:Value} {L:List (Nat×α)} {i:Nat} {os:List Own} {fs:List bA} {K:cE} (pos:Nat) (h:bQ os pos=some (e9 f z v L))
  (hv:∃ r,v=.map (some r)) (hL:InN L) (hn:NdN L) (hi:i<1073741824) (kk:∀ u,K u os ((u,f (lkN z L i))::fs)):MapGetK P t v (.int .i64 (i:Nat)) false os fs K:=by
 have hkey:isKey P k (.int .i64 (i:Nat)):=TIK.key _ ⟨by omega,by omega⟩
 refine ⟨fun G w hw=>?_⟩
 obtain ⟨r,rfl⟩:=hv
 rcases hw.own _ (bU h) 0 Nat.zero_lt_one with ⟨h1,_⟩ | ⟨_,_,h1,_⟩ | ⟨_,h1,_⟩ | ⟨_,_,n',k',d',he,⟨r',es,clock,h1,h2,h3,h4,h5,h6⟩ | ⟨_,_,_,_,_,_,_,h1,_⟩⟩
 ·simp [e9,rD,bL] at h1
 ·simp [e9,rD,bL] at h1
 ·simp [e9,rD,bL] at h1
 ·simp only [e9,rD,bL,Value.map.injEq,Option.some.injEq] at h1
  subst h1
  simp only [e9,rD,bL,Dat.mp.injEq] at he
  obtain ⟨rfl,rfl,rfl⟩:=he
  obtain ⟨l,hl⟩:=hkey
  have hks:=uP (P:=P) (k:=k) (z:=z) hL
  have hbr:r<w.heap.size:=(Array.getElem?_eq_some_iff.1 h3).1
  rcases lkN_some (z:=z) (L:=L) (i:=i) with ⟨n,g1,g2,g3⟩ | ⟨g1,g2⟩
  ·obtain ⟨u,u1,u2,cs,u3,u4⟩:=h6.2 n g1
   rw [g3] at kk
   refine ⟨u.val,_,fun w' hb=>dH ?_,kk _,hw.put ⟨cs,u3,u4⟩⟩
   have h3':w'.heap[r]? = some (.map es clock):=(hb.block r hbr).trans h3
   have hfind:(Instr.findKey k (.int .i64 (i:Nat)) es.toList).run P w'=.ok (some (n,u.val)) w':=by
    rcases ht.keyed.find w' hl es.toList (h6.keys hks) with ⟨_,q2⟩ | ⟨j',e0,q1,q2,q3⟩
    ·exact absurd (u2.trans g2) (q2 u (List.mem_of_getElem? (by simpa using u1)))
    ·obtain ⟨p1,p2,_⟩:=h6.get q2
     obtain rfl:=hn.one (z:=z) p1 g1 ((p2.symm.trans q3).trans g2.symm)
     have:es[j']? = some e0:=by simpa using q2
     rw [u1] at this
     obtain rfl:=Option.some.inj this
     exact q1
   simp [Instr.lookup,run_underlying ht.und,MapKept.run_getObj_map h3',ht.keyed.check w' _ hl,hfind,Result.andThen]
  ·obtain ⟨i0,zv,z1,z2,z3⟩:=hz.zero
   rw [g2] at kk
   refine ⟨zv,_,fun w' hb=>dH ?_,kk _,hw.put (z3 _ _)⟩
   have h3':w'.heap[r]? = some (.map es clock):=(hb.block r hbr).trans h3
   have hfind:(Instr.findKey k (.int .i64 (i:Nat)) es.toList).run P w'=.ok none w':=by
    rcases ht.keyed.find w' hl es.toList (h6.keys hks) with ⟨q1,_⟩ | ⟨j',e0,q1,q2,q3⟩
    ·exact q1
    ·obtain ⟨p1,p2,_⟩:=h6.get q2
     exact absurd (p2.symm.trans q3) (g1 j' p1)
   simp [Instr.lookup,run_underlying ht.und,MapKept.run_getObj_map h3',ht.keyed.check w' _ hl,hfind,Result.andThen,zeroValue,typeInfo,z1,z2]
 ·simp [e9,rD,bL] at h1
theorem mpu_KN {z:α} (L:List (Nat×α)) (t:Nat×α):mpu L.length (spN t) (lL z L)=lL z (L++[t]):=by
 funext i
 unfold mpu lL
 by_cases h:i=L.length
 ·subst h; simp [gE]
 ·rw [if_neg h]
  simp only [gE]
  by_cases h2:i<L.length
  ·rw [List.getElem?_append_left h2]
  ·rw [List.getElem?_eq_none qN,List.getElem?_eq_none (by simp; omega)]
theorem mpu_EN {f:α→Dat} {z:α} (L:List (Nat×α)) (t:Nat×α):mpu L.length (f t.2) (mapEN f z L)=mapEN f z (L++[t]):=by
 funext i
 unfold mpu mapEN
 by_cases h:i=L.length
 ·subst h; simp [gE]
 ·rw [if_neg h]
  simp only [gE]
  by_cases h2:i<L.length
  ·rw [List.getElem?_append_left h2]
  ·rw [List.getElem?_eq_none qN,List.getElem?_eq_none (by simp; omega)]
theorem set_KN {z:α} {L:List (Nat×α)} {n:Nat} (hn:n<L.length) (a:α):lL z (L.set n ((L.getD n (0,z)).1,a))=lL z L:=by
 funext i
 unfold lL
 simp only [gE,List.getElem?_set]
 by_cases h:n=i
 ·subst h; simp [hn,spN]
 ·simp [h]
theorem set_EN {f:α→Dat} {z:α} {L:List (Nat×α)} {n:Nat} (hn:n<L.length) (a:α):mapEN f z (L.set n ((L.getD n (0,z)).1,a))=mpu n (f a) (mapEN f z L):=by
 funext i
 unfold mapEN mpu
 simp only [gE,List.getElem?_set]
 by_cases h:n=i
 ·subst h; simp [hn]
 ·simp [h,Ne.symm h]
def k9 (L:List (Nat×α)) (i:Nat) (a:α):List (Nat×α) :=
 match L.findIdx? fun t=>t.1==i with
 | some n=>L.set n (i,a)
 | none=>L++[(i,a)]
theorem put_N {P:Program} {t k e:TypeId} [ht:TMap P t k e] [TIK P k] {f:α→Dat} {z:α} {v x:Value} {L:List (Nat×α)} {i:Nat} (a:α) {os:List Own} {fs:List bA} {K:cE} (pos:Nat) (h:bQ os pos=some (e9 f z v L))
  (hv:∃ r,v=.map (some r)) (hL:InN L) (hnd:NdN L) (hi:i<1073741824) (hn:L.length<maxLen) (hx:Knw os fs x (f a))
  (kk:K undef (setOwn os pos (e9 f z v (k9 L i a))) fs):MapPutK P t v (.int .i64 (i:Nat)) x os fs K:=by
 have hkey:isKey P k (.int .i64 (i:Nat)):=TIK.key _ ⟨by omega,by omega⟩
 unfold k9 at kk
 cases hf:L.findIdx? fun t=>t.1==i with
 | none =>
  rw [hf] at kk
  refine map_new pos h hv (uP hL) hkey (fun n hn e=>?_) hn hx ?_
  ·have e1:=mapKN_eq e
   have hm:L.getD n (0,z)∈L:=by rw [gE,List.getElem?_eq_getElem hn]; exact List.getElem_mem hn
   have:=List.findIdx?_eq_none_iff.1 hf _ hm
   rw [e1] at this
   simp at this
  ·have e1:=mpu_KN (z:=z) L (i,a)
   have e2:=mpu_EN (f:=f) (z:=z) L (i,a)
   simp only at e2
   show K undef (setOwn os pos (rD v (L.length+1) (mpu L.length (spN (i,a)) (lL z L)) (mpu L.length (f a) (mapEN f z L)))) fs
   rw [e1,e2]
   simp only [e9,List.length_append,List.length_cons,List.length_nil] at kk
   exact kk
 | some n =>
  rw [hf] at kk
  obtain ⟨hnl,h1,_⟩:=List.findIdx?_eq_some_iff_getElem.1 hf
  simp only [beq_iff_eq] at h1
  have hg:L.getD n (0,z)=L[n]:=by rw [gE,List.getElem?_eq_getElem hnl]; rfl
  have hk:lL z L n=.int .i64 (i:Nat):=by unfold lL spN; rw [hg,h1]
  refine map_set pos h hv (uP hL) hkey n hnl hk (fun m hm e=>hnd.one hm hnl (e.trans hk.symm)) hx ?_
  have e1:=set_KN (z:=z) hnl a
  have e2:=set_EN (f:=f) (z:=z) hnl a
  rw [hg,h1] at e1 e2
  simp only [e9,List.length_set,e1,e2] at kk
  exact kk
end
instance tmD:TMap Tryz.prog 74 3 156:=⟨Tryz.underlying74,Maps.int_keyed Tryz.underlying3⟩
theorem int_isKey (x:Int) (hx:inK .i64 x):isKey Tryz.prog 3 (.int .i64 x):=by
 simp only [inK] at hx
 have wx:(Lit.int .i64 x).wf=true:=by simp [Lit.wf,IntKind.min,IntKind.max,IntKind.bits,IntKind.signed]; omega
 refine ⟨.int .i64 x,?_⟩
 unfold keyOf
 simp [Tryz.underlying3,mapKey,wx]
instance tkD:TIK Tryz.prog 3:=⟨int_isKey⟩
def dkD (n:Nat) (mv lv:Value):Dat:=.cat (.one (.int .i64 (n:Nat))) (.cat (.one mv) (.cat (.one lv) (.cat (.one (.bool false)) (.cat (.one (.int .i64 0)) (.one (.slice none 0 0))))))
def dkO (r n:Nat) (mv lv:Value):Own:=bL (cN r) 6 1 (fun _=>dkD n mv lv)
theorem dSize {fs:List bA} {K:cE} (r n:Nat) (mv lv:Value) (rest:List Own) (kk:K (.int .i64 (n:Nat)) (dkO r n mv lv::rest) fs) :
  CallK Tryz.prog false (.func (.func 40) #[] #[]) [cN r] (dkO r n mv lv::rest) fs K:=by
 refine bX (args:=[cN r]) (caps:=[]) Tryz.func40 qK rfl qK (Nat.le_of_ble_eq_true rfl) ?_
 refine aF 0 rfl (aU r) ?_
 refine aB (u:=.int .i64 (n:Nat)) (e:=fun _=>dkD n mv lv) 0 rfl (aJ (aG _)) ?_
 exact fin kk (aT _ _)
theorem dDown' {fs:List bA} {K:cE} (r n:Nat) (mv lv:Value) (rest:List Own) (kk:K (.bool false) (dkO r n mv lv::rest) fs) :
  CallK Tryz.prog false (.func (.func 49) #[] #[]) [cN r] (dkO r n mv lv::rest) fs K:=by
 refine bX (args:=[cN r]) (caps:=[]) Tryz.func49 qK rfl qK (Nat.le_of_ble_eq_true rfl) ?_
 refine aF 0 rfl (aU r) ?_
 refine aB (u:=.bool false) (e:=fun _=>dkD n mv lv) 0 rfl (aC (aC (aC (aJ (aG _))))) ?_
 exact fin kk (aT _ _)
theorem dAt' {fs:List bA} {K:cE} (r n:Nat) (mv lv:Value) (rest:List Own) (i:Nat) (hi:i<n) (kk:K (.int .i64 0) (dkO r n mv lv::rest) fs) :
  CallK Tryz.prog false (.func (.func 83) #[] #[]) [cN r,.int .i64 (i:Nat)] (dkO r n mv lv::rest) fs K:=by
 refine bX (args:=[cN r,.int .i64 (i:Nat)]) (caps:=[]) Tryz.func83 qK rfl qK (Nat.le_of_ble_eq_true rfl) ?_
 refine aF 0 rfl (aU r) ?_
 refine aB (u:=.bool false) (e:=fun _=>dkD n mv lv) 0 rfl (aC (aC (aC (aJ (aG _))))) ?_
 refine aL rfl qN ?_
 refine aF 0 rfl (aU r) ?_
 refine aB (u:=.int .i64 (n:Nat)) (e:=fun _=>dkD n mv lv) 0 rfl (aJ (aG _)) ?_
 refine aL rfl qN ?_
 exact fin kk (aT _ _)
theorem dBurns {fs:List bA} {K:cE} (r n:Nat) (mv lv:Value) (rest:List Own) (kk:K (.bool false) (dkO r n mv lv::rest) fs) :
  CallK Tryz.prog false (.func (.func 118) #[] #[]) [cN r] (dkO r n mv lv::rest) fs K:=by
 refine bX (args:=[cN r]) (caps:=[]) Tryz.func118 qK rfl qK (Nat.le_of_ble_eq_true rfl) ?_
 refine aF 0 rfl (aU r) ?_
 refine bM (aU r) ?_
 refine aB (u:=.int .i64 0) (e:=fun _=>dkD n mv lv) 0 rfl (aC (aC (aC (aC (aJ (aG _)))))) ?_
 refine bG rfl qN ?_
 exact fin kk (aT _ _)
def u8s (l:List Nat):List Value:=l.map fun n=>.int .u8 (n:Nat)
def jN (s:List Nat):Dat:=lD (u8s s)
def z512:List Nat:=List.replicate 512 0
def mM (x:Nat×List Nat):Dat:=.cat (.one (.int .i64 (x.1:Nat))) (jN x.2)
def diskO (r n:Nat) (mv lv:Value) (L W:List (Nat×List Nat)):List Own:=[dkO r n mv lv,e9 jN z512 mv L,kU 513 mM (0,z512) lv W]
theorem dNew (n:Nat) (hn:1≤n∧n≤4096):aY Tryz.prog 10 [.int .i64 (n:Nat)] [] (fun v os fs=>fs=[]∧∃ r rm,v=cN r∧os=diskO r n (.map (some rm)) (.slice none 0 0) [] []):=by
 refine mV Tryz.func10 ?_
 refine aL rfl qN ?_
 refine aL rfl qN ?_
 refine map_make (lL z512 []) (mapEN jN z512 []) fun v hv=>?_
 obtain ⟨rm,rfl⟩:=hv
 refine dE [.one (.int .i64 (n:Nat)),.one (.map (some rm)),.one (.slice none 0 0),.one (.bool false),.cat (.one (.int .i64 0)) (.one (.slice none 0 0))] (by exact ⟨⟨aP rfl,rfl⟩,⟨aP rfl,rfl⟩,fun S w=>⟨rfl,rfl⟩,fun S w=>⟨rfl,rfl⟩,fun S w=>⟨_,_,rfl,⟨rfl,rfl⟩,⟨rfl,rfl⟩⟩,trivial⟩) fun u1=>?_
 refine aQ (aA (d:=dkD n (.map (some rm)) (.slice none 0 0)) qM) fun p1 hp1=>?_
 obtain ⟨r,rfl⟩:=hp1
 refine fin ⟨rfl,r,rm,rfl,rfl⟩ (aM (dG _ _ 513 fun i=>mM (([]:List (Nat×List Nat)).getD i (0,z512))) (aM (bK (nD _ _ _ _)) (aD qS)))
theorem buildSlice_big {P:Program} {t e:TypeId} {size bytes:Nat} {os:List Own} {fs:List bA} {K:cE} [ht:TSl P t e size] [he:TEl P e size bytes] {n:Nat} (vs:List Value) (ds:List Dat) {ps:List (Nat×Value)}
  (hps:ps=nR 0 vs) (hn:n=vs.length) (hsm:n≤1000000) (hsz:n*size≤16000000) (hr:ReadsAll os fs size vs ds)
  (k:∀ v,eQ v→K v (bL v size n (fun i=>ds.getD i (.one undef))::os) fs):BuildSliceK P t n ps os fs K:=by
 subst hps hn
 refine ⟨fun G w hw=>?_⟩
 obtain ⟨i,z,i1,i2,i3,i4,i5,i6⟩:=he.info
 obtain ⟨g1,g2,g3⟩:=hr.get hw
 have hle:vs.length*size≤16000000:=hsz
 have main:∀ zero:Array Value,∃ r,Instr.fill (fun i=>some (i*size,size)) ((Array.range (vs.length*size)).map (zero[· % zero.size]!)) (nR 0 vs)=some r∧r.size=vs.length*size ∧
   ∀ i,i<vs.length→∀ j,j<size→r[i*size+j]? = (vs[i]?.bind fun v=>v.cells[j]?):=by
  intro zero
  obtain ⟨r,r1,r2,r3,_⟩:=uZ size vs 0 ((Array.range (vs.length*size)).map (zero[· % zero.size]!)) g2 qP
  exact ⟨r,r1,by simpa using r2,fun i hi j hj=>by simpa using r3 i hi j hj⟩
 have hrun:∃ r,(Instr.buildSlice t vs.length (nR 0 vs).toArray).run P w=.ok (.slice (some ⟨w.heap.size,0,none⟩) vs.length vs.length) (w.alloc (.cells r e))∧r.size=vs.length*size ∧
   ∀ i,i<vs.length→∀ j,j<size→r[i*size+j]? = (vs[i]?.bind fun v=>v.cells[j]?):=by
  have hlim:¬ (2^24<vs.length*size):=by omega
  by_cases h0:vs.length*size=0
  ·obtain ⟨r,r1,r2,r3⟩:=main #[]
   refine ⟨r,?_,r2,r3⟩
   rw [h0] at r1 hlim
   simp only [Instr.buildSlice,Sem.run_bind,run_underlying ht.und,Result.andThen_ok,dB ht.size,h0,hlim,gt_iff_lt,if_false,if_true,Sem.run_pure,r1]
   simp [newRow]
  ·obtain ⟨r,r1,r2,r3⟩:=main z.cells
   refine ⟨r,?_,r2,r3⟩
   simp only [Instr.buildSlice,Sem.run_bind,run_underlying ht.und,Result.andThen_ok,dB ht.size,h0,hlim,gt_iff_lt,if_false,Sem.run_pure,r1]
   simp [newRow,zeroValue,typeInfo,i1,i4,r1]
 obtain ⟨r,r1,r2,r3⟩:=hrun
 rw [gO r1]
 have hb':Below w.heap.size w (w.alloc (.cells r e)):=(Below.refl _ _).alloc (Nat.le_refl _) _
 refine ⟨hb',_,fs,k _ ⟨_,_,_,rfl⟩,hw.alloc _ (.cells r e) _ hb' rfl (.inr rfl) (.inr (.inl ⟨w.heap.size,vs.length,rfl,?_⟩))⟩
 refine OwnRow.new hw.size _ _ (Nat.le_refl _) (by unfold maxLen; omega) (by simp [bL,r2]) fun i' hi'=>?_
 obtain ⟨v,v1,v2⟩:=g3 i' hi'
 have hv:v∈vs:=List.mem_of_getElem? v1
 refine ⟨v.cells.toList,?_,by simpa [bL] using g2 v hv,fun j hj=>?_⟩
 ·refine RdC.mono (pA _ Good.lt) (fun b ⟨q1,q2,q3⟩=>⟨by simp; omega,q2,fun ho=>ho.elim (fun ⟨i,hi,hv⟩=>?_) q3⟩) _ _ v2
  simp [bL,lR] at hv
  omega
 ·have:=r3 i' hi' j (by simpa [bL] using hj)
  simp only [bL] at this ⊢
  rw [this,v1]
  simp
theorem vO {P:Program} {t e:TypeId} {size bytes:Nat} {os:List Own} {fs:List bA} {K:cE} [ht:TSl P t e size] [he:TEl P e size bytes] {n:Nat} (vs:List Value) (ds:List Dat) {ps:List (Nat×Value)}
  (hps:ps=nR 0 vs) (hn:n=vs.length) (hsm:n≤1000000) (hsz:n*size≤16000000) (hr:ReadsAll os fs size vs ds)
  (k:∀ v,K v os ((v,.sl size n fun i=>ds.getD i (.one undef))::fs)):BuildSliceK P t n ps os fs K:=by
 refine ⟨fun G w hw=>?_⟩
 have:=(buildSlice_big (P:=P) (t:=t) (K:=fun v os' fs'=>eQ v∧os'=bL v size n (fun i=>ds.getD i (.one undef))::os∧fs'=fs) vs ds hps hn hsm hsz hr fun v hv=>⟨hv,rfl,rfl⟩).out G w hw
 refine this.mono ?_
 rintro v w' ⟨hb,os',fs',⟨hv,rfl,rfl⟩,hw'⟩
 exact ⟨hb,_,_,k v,Seals.slice 0 _ rfl hv (fun _ _=>rfl) G w' hw'⟩
section
variable {α:Type} {size:Nat} {f:α→Dat} {z:α} {P:Program} {t e ty:TypeId} {bytes:Nat} {os:List Own} {fs:List bA} {K:cE}
theorem lit_big [ht:TSl P t e size] [he:TEl P e size bytes] {x:Value} (f:α→Dat) (z:α) (a:α) (hsz:size≤1000000) (hx:Reads os fs x (f a)) (hc:(f a).cells=size) (k:∀ v,K v os ((v,LD size f z [a])::fs)):BuildSliceK P t 1 [(0,x)] os fs K:=by
 have h1:=vO (P:=P) (t:=t) (os:=os) (fs:=fs) (K:=fun u os' fs'=>∃ os'' fs'',Seals os' fs' os'' fs''∧K u os'' fs'') (n:=1) [x] [f a] rfl rfl qE qN ⟨hx,hc,trivial⟩
 refine ⟨Grw.sealed (h1 fun v=>⟨_,_,?_,k v⟩).out⟩
 exact Seals.knw_cong rfl fun i hi=>by
  have:i=0:=by omega
  subst this; rfl
end
theorem copy_part {P:Program} {t ty e:TypeId} {u v:Value} {k size nd:Nat} {ed:Nat→Dat} {b:List Nat} {d':Dat} {os:List Own} {fs:List bA} {K:cE} [ht:TSl P t e 1] [he:TEl P e 1 1] (pos:Nat) (h:bQ os pos=some (bL v size 1 ed)) (hbx:g9 v)
  (hm:(u,BD b)∈fs) (hb:b.length≤nd) (hk:k+nd≤size) (hd:∀ S w cs,RdC S w (ed 0) cs→RdC S w d' (cs.take k++u8s b++cs.drop (k+b.length)))
  (k':K (.int .i64 (b.length:Nat)) (setOwn os pos (bL v size 1 fun _=>d')) fs):CopyK P [t,t] ty (arrS (jP v k) nd) u os fs K:=by
 obtain ⟨r,rfl⟩:=hbx
 refine ⟨fun G w hw=>?_⟩
 obtain ⟨ti,z,i1,i2,i3,i4,i5,i6⟩:=he.info
 obtain ⟨ba,bc,news,rfl,n1,n2,n3,n4⟩:=pH (P:=P) (hw.facts _ hm)
 have hnw:news=u8s b:=by
  apply List.ext_getElem?
  intro i
  by_cases hi:i<b.length
  ·obtain ⟨cs,⟨rfl,_⟩,_,c3⟩:=n4 i hi
   have:=c3 0 qE
   simp only [Nat.mul_one,Nat.add_zero] at this
   rw [this]
   simp [u8s,gE,hi]
  ·rw [List.getElem?_eq_none qN,List.getElem?_eq_none (by simp [u8s]; omega)]
 subst hnw
 have hul:(u8s b).length=b.length:=by simp [u8s]
 have hov:=hw.own _ (bU h) 0 Nat.zero_lt_one
 obtain ⟨r',cap,hr⟩:=hov.row Nat.zero_lt_one
 have hrr:r'=r:=by have:=hr.blk; simp [bL,lR] at this; exact this.symm
 subst hrr
 obtain ⟨b1,b2,b3,cur,t0,b4,b5,b6⟩:=hr.row
 obtain ⟨cs,c1,c2,c3⟩:=b6 0 Nat.zero_lt_one
 have hcap:1≤cap:=b2
 have hsz0:0<size:=by
  have h1:=dM c1
  have h2:0<((bL (.pointer (some ⟨r',0,none⟩)) size 1 ed).e 0 0).cells:=Dat.cells_pos _
  have h3:cs.length=size:=c2
  omega
 have hs:(bL (.pointer (some ⟨r',0,none⟩)) size 1 ed).size=size:=rfl
 have hfit:k+(u8s b).length≤cur.size:=by
  have:1*size≤cap*size:=Nat.mul_le_mul_right _ hcap
  rw [b5,hs,hul]; omega
 have hst:=eS (P:=P) r' k t0 (u8s b) 0 cur w b4 (by simpa using hfit) n2
 simp only [Nat.add_zero] at hst
 have hmin:Nat.min b.length nd=b.length:=Nat.min_eq_left hb
 have hrun:(Builtin.copy_ [t,t].toArray ty #[arrS (jP (.pointer (some ⟨r',0,none⟩)) k) nd,.slice ba b.length bc]).run P w =
   .ok (.int .i64 (b.length:Nat)) (w.setRow r' (cur.toList.take k++u8s b++cur.toList.drop (k+(u8s b).length)).toArray):=by
  rw [arrS_e]
  have:=n3 w fun _=>rfl
  simp only [Builtin.copy_]
  simp [run_underlying ht.und,sizeOf,typeInfo,i1,i2,Builtin.lenOf,hmin,this,goInt,hst]
 rw [gO hrun]
 refine ⟨_,_,k',?_⟩
 have hhas:(bL (.pointer (some ⟨r',0,none⟩)) size 1 ed).has r':=⟨0,Nat.zero_lt_one,hr.blk⟩
 refine hw.step h rfl rfl rfl qP (fun q hq hno=>setRow_other w r' q _ fun e'=>hno (e' ▸ hhas)) (fun b hb=>.inl hb) (fun a b c ha hb _ _=>by
  have ha':a<1:=ha
  have hb':b<1:=hb
  omega) fun mono y hy=>?_
 have hy0:y=0:=by have:y<1:=hy; omega
 subst hy0
 have hc1:cap=1:=by
  rcases hov with ⟨h1,h2⟩ | ⟨q,cap',h1,h2⟩ | ⟨q,h1,h2,h3⟩ | ⟨h1,_⟩
  ·simp [bL] at h1
  ·simp [bL] at h1
  ·have:q=r':=by simp [bL] at h1; exact h1.symm
   subst this
   obtain ⟨_,_,_,cur',t',q4,q5,_⟩:=h3
   obtain ⟨rfl,_⟩:=b4.inj q4
   rw [q5] at b5
   exact (Nat.eq_of_mul_eq_mul_right (show 0<(bL (.pointer (some ⟨q,0,none⟩)) size 1 ed).size by rw [hs]; exact hsz0) b5).symm
  ·simp [bL] at h1
 subst hc1
 have c2':cs.length=size:=c2
 refine .inr (.inr (.inl ⟨r',rfl,rfl,b1,Nat.le_refl _,b3,_,t0,b4.set (by simp only [List.size_toArray,List.length_append,List.length_take,List.length_drop,Array.length_toList]; omega),?_,fun i hi=>?_⟩))
 ·simp only [List.size_toArray,List.length_append,List.length_take,List.length_drop,Array.length_toList] at hfit ⊢
  rw [b5] at hfit ⊢
  show _=1*size
  simp only [hs] at hfit ⊢
  omega
 ·have hi0:i=0:=by omega
  subst hi0
  have hm':=mono _ cs c1
  refine ⟨cs.take k++u8s b++cs.drop (k+b.length),hd _ _ _ hm',by
   show _=size
   simp only [List.length_append,List.length_take,List.length_drop,hul]; omega,fun j hj=>?_⟩
  rw [List.getElem?_toArray,kZ _ _ _ _ (by simpa using hfit)]
  have hj':j<size:=hj
  have c3'':cur[0*size+j]? = cs[j]? := c3 j hj'
  rw [Nat.zero_mul,Nat.zero_add] at c3''
  show (if k≤0*size+j∧0*size+j<k+(u8s b).length then (u8s b)[0*size+j - k]? else cur.toList[0*size+j]?)=_
  have c4:cur.toList[j]? = cs[j]? := by rw [Array.getElem?_toList]; exact c3''
  rw [Nat.zero_mul,Nat.zero_add,← hul,kZ cs (u8s b) k j qN,c4]
def k6 (b:List Nat):List Nat:=b++List.replicate (512 - b.length) 0
theorem s9 {b:List Nat} (h:b.length≤512):(k6 b).length=512:=by simp [k6]; omega
theorem u8s_z:u8s z512=List.replicate 512 (.int .u8 0):=List.map_replicate
theorem lV (l:List Nat):(u8s l).length=l.length:=by simp [u8s]
theorem u8s_one (l:List Nat):∀ v∈u8s l,v.oneCell'=true:=fun v hv=>by
 obtain ⟨n,_,rfl⟩:=List.mem_map.1 hv; rfl
theorem u8s_ne {l:List Nat} (h:l.length=512):u8s l≠[]:=fun e=>by have:=congrArg List.length e; rw [lV,h] at this; simp at this
theorem pK {s:List Nat} (h:s.length=512):(jN s).cells=512:=by unfold jN; rw [lQ (u8s_ne h),lV,h]
theorem kR:z512.length=512:=List.length_replicate
theorem tP {i:Nat} {s:List Nat} (h:s.length=512):(mM (i,s)).cells=513:=by show 1+(jN s).cells=513; rw [pK h]
theorem sec_rd {S:Nat→Prop} {w:World} {s:List Nat} {cs:List Value} (h:s.length=512):RdC S w (jN s) cs↔cs=u8s s:=by
 unfold jN
 rw [o9 (u8s_ne h)]
 exact ⟨fun h=>h.1,fun h=>⟨h,u8s_one s⟩⟩
theorem ld_wrt {i:Nat} {s:List Nat} (h:s.length=512):gX Tryz.prog 161 (mM (i,s)):=by
 show oL _ _ (1+(jN s).cells)
 rw [pK h]
 exact (inferInstance:oL Tryz.prog 161 513)
theorem wrt0_rd (S:Nat→Prop) (w:World) (i:Nat):RdC S w (mM (i,z512)) (.int .i64 (i:Nat)::List.replicate 512 (.int .u8 0)):=⟨[_],_,rfl,⟨rfl,rfl⟩,(sec_rd kR).2 u8s_z.symm⟩
instance iA156:TArr Tryz.prog 156 512 5 (.int .u8 0):=⟨Tryz.underlying156,by kernel_rfl,by kernel_rfl,rfl⟩
theorem tzWrt' (i:Nat):(mM (i,z512)).cells=513:=tP kR
instance tzWrt:iD Tryz.prog 161 (mM (0,z512)):=mQ infT161 fun S w=>wrt0_rd S w 0
theorem pad_rd {S:Nat→Prop} {w:World} {i:Nat} {b:List Nat} (hb:b.length≤512) {cs:List Value} (h:RdC S w (mM (i,z512)) cs):RdC S w (mM (i,k6 b)) (cs.take 1++u8s b++cs.drop (1+b.length)):=by
 obtain ⟨c1,c2,rfl,⟨rfl,h1⟩,h2⟩:=h
 have h3:=(sec_rd kR).1 h2
 subst h3
 refine ⟨[_],u8s (k6 b),?_,⟨rfl,h1⟩,(sec_rd (s9 hb)).2 rfl⟩
 have e1:([Value.int .i64 (i:Nat)]++u8s z512).take 1=[Value.int .i64 (i:Nat)]:=rfl
 have e2:([Value.int .i64 (i:Nat)]++u8s z512).drop (1+b.length)=u8s (List.replicate (512 - b.length) 0):=by
  rw [Nat.add_comm 1,List.singleton_append,List.drop_succ_cons]
  unfold u8s z512
  rw [← List.map_drop,List.drop_replicate]
 rw [e1,e2]
 unfold k6 u8s
 rw [List.map_append,List.append_assoc]
theorem dWrite {fs:List bA} {K:cE} (r n:Nat) (mv lv u:Value) (L W:List (Nat×List Nat)) (rest:List Own) (i:Nat) (hi:i<n) (hn:n≤4096) (b:List Nat) (hb:b.length≤512) (hu:(u,BD b)∈fs) (hl:eQ lv) (hW:W.length≤10000)
  (kk:∀ lv',eQ lv'→K (.int .i64 0) (dkO r n mv lv'::e9 jN z512 mv L::kU 513 mM (0,z512) lv' (W++[(i,k6 b)])::rest) fs) :
  CallK Tryz.prog false (.func (.func 79) #[] #[]) [cN r,.int .i64 (i:Nat),u] (dkO r n mv lv::e9 jN z512 mv L::kU 513 mM (0,z512) lv W::rest) fs K:=by
 have hpl:=s9 hb
 refine bX (args:=[cN r,.int .i64 (i:Nat),u]) (caps:=[]) Tryz.func79 qK rfl qK (Nat.le_of_ble_eq_true rfl) ?_
 refine dAt' r n mv lv _ i hi ?_
 refine aL rfl qN ?_
 refine aS (v:=u) (n:=b.length) (size:=1) hu fun _=>?_
 refine aL rfl qN ?_
 refine dBurns r n mv lv _ ?_
 refine dE [.one (.int .i64 (i:Nat)),jN z512] (by exact ⟨⟨aP rfl,rfl⟩,fun S w=>(sec_rd kR).2 u8s_z.symm,trivial⟩) fun u1=>?_
 refine aI (d:=mM (0,z512)) fun p1 hp1=>?_
 refine bY (d:=mM (i,z512)) 0 rfl hp1 (by rw [tzWrt',tzWrt']) (by rw [tzWrt']; kernel_rfl) (aA (d:=mM (i,z512)) (.head _)) ?_
 refine aF 0 rfl hp1 ?_
 refine slice_arr (z:=.int .u8 0) hp1 ?_
 refine copy_part (b:=b) (d':=mM (i,k6 b)) 0 rfl hp1 (.tail _ hu) hb (by rw [tzWrt']; decide) (fun S w cs hcs=>pad_rd hb hcs) ?_
 refine bC [0,1,2,3,4,5,6,7,8,9,10] [0,1,2,3,4,5,6,7,8,9,10] qK qK ?_
 refine aF 1 rfl (aU r) ?_
 refine aB (u:=lv) (e:=fun _=>dkD n mv lv) 1 rfl (aC (aC (aJ (aG _)))) ?_
 refine aE (d:=mM (i,k6 b)) 0 rfl hp1 rfl (ld_wrt hpl) fun u2=>?_
 refine lit_big (size:=513) mM (0,z512) (i,k6 b) qE (aA (d:=mM (i,k6 b)) (.head _)) (tP hpl) fun l1=>?_
 refine eU 3 rfl hl (cI (.head _)) (by simp only [List.length_cons,List.length_nil]; omega) (by simp only [List.length_cons,List.length_nil]; omega) fun u3 hu3=>?_
 refine aF 1 rfl (aU r) ?_
 refine cP 1 rfl (aU r) (Rep.rk (Rep.rk (Rep.left (cD (n:=.one u3) rfl)) rfl) rfl) (aP (by obtain ⟨_,_,_,rfl⟩:=hu3; rfl)) ?_
 refine fin (kk u3 hu3) (dS (aD qD))
section
variable {α:Type} {z a:α} {M:List (Nat×α)} {i:Nat}
theorem mputN_mem {t:Nat×α} (h:t∈k9 M i a):t∈M∨t=(i,a):=by
 unfold k9 at h
 split at h
 ·exact List.mem_or_eq_of_mem_set h
 ·rcases List.mem_append.1 h with h | h
  ·exact .inl h
  ·exact .inr (List.mem_singleton.1 h)
theorem mputN_len:(k9 M i a).length≤M.length+1:=by
 unfold k9
 split
 ·rw [List.length_set]; omega
 ·simp
theorem tD (h:NdN M):NdN (k9 M i a):=by
 unfold k9
 split
 ·rename_i n hf
  obtain ⟨hn,h1,_⟩:=List.findIdx?_eq_some_iff_getElem.1 hf
  simp only [beq_iff_eq] at h1
  refine List.pairwise_iff_getElem.2 fun x y hx hy hxy=>?_
  rw [List.length_set] at hx hy
  have:=List.pairwise_iff_getElem.1 h x y hx hy hxy
  rw [List.getElem_set,List.getElem_set]
  by_cases e1:n=x
  ·subst e1
   rw [if_pos rfl,if_neg qN]
   rw [h1] at this
   exact this
  ·rw [if_neg e1]
   by_cases e2:n=y
   ·subst e2
    rw [if_pos rfl]
    rw [h1] at this
    exact this
   ·rw [if_neg e2]; exact this
 ·rename_i hf
  refine List.pairwise_append.2 ⟨h,List.pairwise_singleton _ _,fun s hs t ht e=>?_⟩
  simp only [List.mem_singleton] at ht
  subst ht
  have:=List.findIdx?_eq_none_iff.1 hf s hs
  simp [e] at this
theorem lkN_mem:lkN z M i=z∨∃ t,t∈M∧t.1=i∧lkN z M i=t.2:=by
 unfold lkN
 cases hf:M.find? fun t=>t.1==i with
 | none=>exact .inl rfl
 | some t =>
  have h1:=List.find?_some hf
  simp only [beq_iff_eq] at h1
  exact .inr ⟨t,List.mem_of_find?_eq_some hf,h1,rfl⟩
theorem rF (h:NdN M) {t:Nat×α} (ht:t∈M):lkN z M t.1=t.2:=by
 unfold lkN
 cases hf:M.find? fun s=>s.1==t.1 with
 | none =>
  have:=List.find?_eq_none.1 hf t ht
  simp at this
 | some s =>
  have h1:=List.find?_some hf
  simp only [beq_iff_eq] at h1
  obtain ⟨m,hm,e1⟩:=List.mem_iff_getElem.1 (List.mem_of_find?_eq_some hf)
  obtain ⟨n,hn,e2⟩:=List.mem_iff_getElem.1 ht
  have:m=n:=by
   rcases Nat.lt_trichotomy m n with hlt | rfl | hgt
   ·exact absurd (by rw [e1,e2,h1]) (List.pairwise_iff_getElem.1 h m n hm hn hlt)
   ·rfl
   ·exact absurd (by rw [e1,e2,h1]) (List.pairwise_iff_getElem.1 h n m hn hm hgt)
  subst this
  rw [← e1,← e2]; rfl
theorem mputN_lk (h:NdN M) (k:Nat):lkN z (k9 M i a) k=if k=i then a else lkN z M k:=by
 have hin:(i,a)∈k9 M i a:=by
  unfold k9
  split
  ·rename_i n hf
   obtain ⟨hn,_⟩:=List.findIdx?_eq_some_iff_getElem.1 hf
   exact List.mem_iff_getElem.2 ⟨n,by rw [List.length_set]; exact hn,by simp⟩
  ·exact List.mem_append.2 (.inr (List.mem_singleton.2 rfl))
 by_cases e:k=i
 ·rw [if_pos e,e]; exact rF (tD h) hin
 ·rw [if_neg e]
  rcases lkN_mem (z:=z) (M:=k9 M i a) (i:=k) with h1 | ⟨t,ht,e1,h1⟩
  ·rcases lkN_mem (z:=z) (M:=M) (i:=k) with h2 | ⟨t,ht,e1,h2⟩
   ·rw [h1,h2]
   ·have hm:t∈k9 M i a:=by
     unfold k9
     split
     ·rename_i n hf
      obtain ⟨hn,h3,_⟩:=List.findIdx?_eq_some_iff_getElem.1 hf
      simp only [beq_iff_eq] at h3
      obtain ⟨m,hm,rfl⟩:=List.mem_iff_getElem.1 ht
      have hne:n≠m:=fun q=>by subst q; exact e (e1.symm.trans h3)
      exact List.mem_iff_getElem.2 ⟨m,by rw [List.length_set]; exact hm,by rw [List.getElem_set,if_neg hne]⟩
     ·exact List.mem_append.2 (.inl ht)
    subst e1
    rw [h2]; exact rF (tD h) hm
  ·rcases mputN_mem ht with ht | rfl
   ·subst e1
    rw [h1]; exact (rF h ht).symm
   ·exact absurd e1.symm e
end
def fP (L W:List (Nat×List Nat)):List (Nat×List Nat):=W.foldl (fun L x=>k9 L x.1 x.2) L
theorem putAll_take {L W:List (Nat×List Nat)} {i:Nat} (h:i<W.length):fP L (W.take (i+1))=k9 (fP L (W.take i)) (W.getD i (0,z512)).1 (W.getD i (0,z512)).2:=by
 unfold fP
 rw [List.take_add_one,List.getElem?_eq_getElem h,List.foldl_append,gE,List.getElem?_eq_getElem h]
 rfl
structure DkOk (n:Nat) (L:List (Nat×List Nat)):Prop where
 nd:NdN L
 lt:∀ x∈L,x.1<n∧x.2.length=512
theorem DkOk.inN {n:Nat} {L:List (Nat×List Nat)} (h:DkOk n L) (hn:n≤4096):InN L:=fun t ht=>by have:=(h.lt t ht).1; omega
theorem DkOk.put {n i:Nat} {s:List Nat} {L:List (Nat×List Nat)} (h:DkOk n L) (hi:i<n) (hs:s.length=512):DkOk n (k9 L i s) :=
 ⟨tD h.nd,fun x hx=>(mputN_mem hx).elim (h.lt x) fun e=>by rw [e]; exact ⟨hi,hs⟩⟩
theorem iJ {n:Nat}:∀ (W L:List (Nat×List Nat)),DkOk n L→(∀ x∈W,x.1<n∧x.2.length=512)→DkOk n (fP L W)∧(fP L W).length≤L.length+W.length
 | [],L,h,_=>⟨h,Nat.le_refl _⟩
 | x::r,L,h,hw=>by
  obtain ⟨h1,h2⟩:=hw x (List.mem_cons_self ..)
  obtain ⟨h3,h4⟩:=iJ r (k9 L x.1 x.2) (h.put h1 h2) fun y hy=>hw y (List.mem_cons_of_mem _ hy)
  have h5:=mputN_len (M:=L) (i:=x.1) (a:=x.2)
  exact ⟨h3,by show (fP (k9 L x.1 x.2) r).length≤_; rw [List.length_cons]; omega⟩
theorem ld_sec {s:List Nat} (h:s.length=512):gX Tryz.prog 156 (jN s):=ld_arr iA156 (by rw [lV,h]) qE
theorem tK {fs:List bA} {K:cE} (r n rm:Nat) (lv:Value) (L W:List (Nat×List Nat)) (rest:List Own) (hn:n≤4096) (hL:DkOk n L) (hW:∀ x∈W,x.1<n∧x.2.length=512) (hl:eQ lv) (hlen:L.length+W.length≤100000)
  (kk:K (.int .i64 0) (dkO r n (.map (some rm)) (.slice none 0 0)::e9 jN z512 (.map (some rm)) (fP L W)::kU 513 mM (0,z512) (.slice none 0 0) []::rest) fs) :
  CallK Tryz.prog false (.func (.func 80) #[] #[]) [cN r] (dkO r n (.map (some rm)) lv::e9 jN z512 (.map (some rm)) L::kU 513 mM (0,z512) lv W::rest) fs K:=by
 refine cM (Seals.L 2 rfl hl) ?_
 refine bX (args:=[cN r]) (caps:=[]) Tryz.func80 qK rfl qK (Nat.le_of_ble_eq_true rfl) ?_
 refine aF 0 rfl (aU r) ?_
 refine aB (u:=.bool false) (e:=fun _=>dkD n (.map (some rm)) lv) 0 rfl (aC (aC (aC (aJ (aG _))))) ?_
 refine dBurns r n (.map (some rm)) lv _ ?_
 refine aF 0 rfl (aU r) ?_
 refine aB (u:=lv) (e:=fun _=>dkD n (.map (some rm)) lv) 0 rfl (aC (aC (aJ (aG _)))) ?_
 refine aS (v:=lv) (n:=W.length) (size:=513) (.head _) fun _=>?_
 refine bD (X:=Nat) (fun i=>([(0,cN r),(16,lv),(17,.int .i64 (W.length:Nat)),(18,.int .i64 (i:Nat))],dkO r n (.map (some rm)) lv::e9 jN z512 (.map (some rm)) (fP L (W.take i))::rest,(lv,LD 513 mM (0,z512) W)::fs)) (fun i=>i≤W.length) (fun i=>W.length - i) rfl ?_ ?_
 ·exact bB 0 (Nat.zero_le _) trivial qF (aT _ _)
 intro i hi
 replace hi:i≤W.length:=hi
 refine aO _ rfl (fun hlt=>?_) (fun hlt=>?_)
 ·have hil:i<W.length:=by omega
  have htk:=putAll_take (L:=L) hil
  obtain ⟨hx1,hx2⟩:=hW _ (eZ (0,z512) hil)
  obtain ⟨ho1,ho2⟩:=iJ (W.take i) L hL fun x hx=>hW x (List.mem_of_mem_take hx)
  rw [List.length_take] at ho2
  refine aZ (v:=lv) (n:=W.length) (size:=513) (el:=fun i=>mM (W.getD i (0,z512))) (.head _) i rfl hil fun a1=>?_
  generalize hxx:W.getD i (0,z512)=x at *
  generalize fP L (W.take i)=M at *
  obtain ⟨x1,x2⟩:=x
  refine cS (d:=mM (x1,x2)) (by rw [← hxx]; exact .head _) (ld_wrt hx2) fun u2=>?_
  refine aI (d:=mM (0,z512)) fun p1 hp1=>?_
  refine bY (d:=mM (x1,x2)) 0 rfl hp1 (by rw [tzWrt',tP hx2]) (by rw [tzWrt']; kernel_rfl) (aA (d:=mM (x1,x2)) (.head _)) ?_
  refine bC [0,1,2,3,4,5,6,7,8] [0,1,2,3,4,5,6,7,8] qK qK ?_
  refine aF 1 rfl (aU r) ?_
  refine aB (u:=.map (some rm)) (e:=fun _=>dkD n (.map (some rm)) lv) 1 rfl (aC (aJ (aG _))) ?_
  refine aF 0 rfl hp1 ?_
  refine aB (u:=.int .i64 (x1:Nat)) 0 rfl (aJ (aG _)) ?_
  refine aF 0 rfl hp1 ?_
  refine aK (d:=jN x2) 0 rfl (aC (aG _)) (ld_sec hx2) fun u3=>?_
  refine put_N x2 2 rfl ⟨rm,rfl⟩ (ho1.inN hn) ho1.nd (by simp only at hx1; omega) (by unfold maxLen; omega) (cI (.head _)) ?_
  refine ar rfl qI ?_
  refine bB (i+1) qO qO qF ?_
  simp only [htk]
  exact dS (aD (fun F hF=>by
   rcases List.mem_cons.1 hF with rfl | hF
   ·repeat (first | exact List.Mem.head _ | apply List.Mem.tail)
   ·repeat (first | exact hF | apply List.Mem.tail)))
 ·obtain rfl:i=W.length:=by omega
  rw [List.take_length]
  refine aF 0 rfl (aU r) ?_
  refine cP 0 rfl (aU r) (Rep.rk (Rep.rk (Rep.left (cD (n:=.one (.slice none 0 0)) rfl)) rfl) rfl) (aP rfl) ?_
  exact fin kk (aM (dG _ _ 513 fun i=>mM (([]:List (Nat×List Nat)).getD i (0,z512))) (aM (bK (nD _ _ _ _)) (aD (fun F hF=>.tail _ hF))))
theorem bClone (u:Value) (l:List Nat) (h0:0<l.length) (hl:l.length≤1000000):aY Tryz.prog 85 [u] [(u,BD l)] (fun r os fs=>os=[]∧fs=[(r,BD l)]):=by
 refine mV Tryz.func85 ?_
 refine sE (n:=l.length) (size:=1) (.head _) (fun h=>absurd h qN) ?_
 refine empty_L (size:=1) by8 0 qE fun v hv=>?_
 refine eU (m:=l) 0 rfl hv (cI (.head _)) (by simp; omega) (by simp; omega) fun v2 hv2=>?_
 rw [List.nil_append]
 exact fin ⟨rfl,rfl⟩ (aM (Seals.B 0 rfl hv2) (aD qS))
def noW:Dat:=LD 513 mM (0,z512) []
theorem bBackW (u:Value):aY Tryz.prog 84 [u] [(u,noW)] (fun r os fs=>os=[]∧∃ p,r=.func (.func 119) #[] #[p]∧fs=[(p,.ptr noW)]):=by
 refine mV Tryz.func84 ?_
 refine aQ (aA (d:=noW) qM) fun p1 hp1=>?_
 exact fin ⟨rfl,p1,rfl,rfl⟩ (aM (Seals.box 0 rfl hp1 rfl) (aD qS))
theorem load_noW:gX Tryz.prog 75 noW:=(inferInstance:lG Tryz.prog 75)
theorem backW_nil {N:Nat} {g:Operand} {ps:Array Tmp} {sg bd:Code} {f:Fr} {os:List Own} {fs:List bA} {Q:iX} {p:Value}
  (hg:ev f g=some (.func (.func 119) #[] #[p])) (hp:(p,.ptr noW)∈fs) (hend:Q .normal f os fs):OverK Tryz.prog N g ps sg bd f os fs Q:=by
 refine over_go (caps:=[p]) hg (enters Tryz.func119 qK rfl) fun l D fn tm hk=>?_
 refine bX (args:=[yv l]) (caps:=[p]) Tryz.func119 qK rfl qK (Nat.le_of_ble_eq_true rfl) ?_
 refine cS hp load_noW fun s=>?_
 refine aS (n:=0) (.head _) fun _=>?_
 refine ar rfl qI ?_
 refine bD (X:=Unit) (fun _=>([(0,yv l),(1,p),(3,.int .i64 (-1))],dV l (recD ps sg bd fn tm D .ready none)::os,fs)) (fun _=>True) (fun _=>0) rfl ?_ ?_
 ·exact bB () trivial trivial qF (aD fun F hF=>.tail _ hF)
 intro _ _
 refine aL rfl qN ?_
 exact fin (os':=dV l (recD ps sg bd fn tm D .ready none)::os) (fs':=fs) ⟨0,.inl ⟨rfl,hend⟩⟩ (aT _ _)
instance tz156:iD Tryz.prog 156 (jN z512):=⟨by
 obtain ⟨i,z,h1,h2,h3⟩:=(tz_arr iA156 qE).zero
 exact ⟨i,z,h1,h2,fun S w=>by have:=h3 S w; rw [← u8s_z] at this; exact this⟩⟩
instance tv156:TZeroV Tryz.prog 156 (jN z512):=⟨by
 have h:=iA156.info
 cases hi:Tryz.prog.info? 156 with
 | none=>rw [hi] at h; simp only [Option.map_none] at h; cases h
 | some i =>
  rw [hi] at h
  simp only [Option.map_some,Option.some.injEq,Prod.mk.injEq] at h
  refine ⟨i,_,rfl,h.1,fun S w=>?_⟩
  have h2:=Rd.mk_arr (S:=S) (w:=w) (vs:=u8s z512) (by rw [lV,kR]; decide) (u8s_one _)
  have h3:(u8s z512).toArray=(List.replicate 512 (Value.int .u8 0)).toArray:=congrArg List.toArray u8s_z
  rw [h3] at h2
  exact h2⟩
theorem dRead {fs:List bA} {K:cE} (r n rm:Nat) (L:List (Nat×List Nat)) (rest:List Own) (i:Nat) (hi:i<n) (hn:n≤4096) (hL:DkOk n L)
  (kk:∀ x,K (.tuple #[x,.int .i64 0]) (dkO r n (.map (some rm)) (.slice none 0 0)::e9 jN z512 (.map (some rm)) L::rest) ((x,BD (lkN z512 L i))::fs)) :
  CallK Tryz.prog false (.func (.func 51) #[] #[]) [cN r,.int .i64 (i:Nat)] (dkO r n (.map (some rm)) (.slice none 0 0)::e9 jN z512 (.map (some rm)) L::rest) fs K:=by
 have hsl:(lkN z512 L i).length=512:=by
  rcases lkN_mem (z:=z512) (M:=L) (i:=i) with h | ⟨t,ht,_,h⟩
  ·rw [h]; exact kR
  ·rw [h]; exact (hL.lt t ht).2
 refine bX (args:=[cN r,.int .i64 (i:Nat)]) (caps:=[]) Tryz.func51 qK rfl qK (Nat.le_of_ble_eq_true rfl) ?_
 refine aQ (aP (v:=.int .i64 (i:Nat)) rfl) fun p1 hp1=>?_
 refine aW (u:=.int .i64 (i:Nat)) 0 rfl hp1 rfl ?_
 refine cM (bK (List.Perm.swap _ _ _)) ?_
 refine dAt' r n (.map (some rm)) (.slice none 0 0) _ i hi ?_
 refine aL rfl qN ?_
 refine bC [0,1,2,3,4,5,6,7] [0,1,2,3,4,5,6,7] qK qK ?_
 refine aF 0 rfl (aU r) ?_
 refine aB (u:=.map (some rm)) (e:=fun _=>dkD n (.map (some rm)) (.slice none 0 0)) 0 rfl (aC (aJ (aG _))) ?_
 refine aW (u:=.int .i64 (i:Nat)) 1 rfl hp1 rfl ?_
 refine get_own_N 2 rfl ⟨rm,rfl⟩ (hL.inN hn) hL.nd qN fun u1=>?_
 generalize lkN z512 L i=s at *
 refine aI (d:=jN z512) fun p2 hp2=>?_
 rw [pK kR]
 refine bY (d:=jN s) 0 rfl hp2 (pK hsl) qK (aA (.head _)) ?_
 refine aF 1 rfl (aU r) ?_
 refine aB (u:=.slice none 0 0) (e:=fun _=>dkD n (.map (some rm)) (.slice none 0 0)) 1 rfl (aC (aC (aJ (aG _)))) ?_
 refine bN (bBackW (.slice none 0 0)) (Seals.add (d:=noW) (Knw.nil 513 _)) (aX (.head _) (bP _)) ?_
 rintro _ _ _ ⟨rfl,p3,rfl,rfl⟩
 refine backW_nil rfl (.head _) ?_
 refine slice_arr0 (z:=.int .u8 0) hp2 ?_
 have hul:(u8s s).length=512:=by rw [lV,hsl]
 have hkn:∀ {os:List Own} {fs:List bA} {v:Value},(v,Dat.sl 1 512 fun i=>.one ((u8s s).getD i undef))∈fs→Knw os fs v (BD s):=fun {os fs v} h=>by
  unfold BD LD
  rw [hsl]
  refine Knw.sl_cong (cI h) fun i hi=>?_
  simp [by8,u8s,gE,show i<s.length by omega]
 refine bN (bClone (arrS p2 512) s qN qN) (aM (seals_arr (vs:=u8s s) 0 rfl hp2 rfl hul qE qE) (Seals.add (hkn (.head _)))) (aX (.head _) (bP _)) ?_
 rintro x _ _ ⟨rfl,rfl⟩
 refine fin (kk x) (aM (aV 1 _ _) (aD (fun F hF=>by
  rcases List.mem_cons.1 hF with rfl | hF
  ·exact .head _
  ·repeat (first | exact hF | apply List.Mem.tail))))
def bV (n:Nat):Nat:=(n+511)/512
theorem pF (n:Nat) (hn:n≤1000000):aY Tryz.prog 104 [.int .i64 (n:Nat)] [] (fun r os fs=>os=[]∧fs=[]∧r=.int .i64 (bV n:Nat)):=by
 refine mV Tryz.func104 ?_
 refine ar rfl qI ?_
 refine ar rfl qI ?_
 refine gH qN qN (by exact ⟨by omega,by omega⟩) ?_
 rw [show ((n:Nat)+512 - 1:Int)/512=((bV n:Nat):Int) by unfold bV; omega]
 exact fin ⟨rfl,rfl,rfl⟩ (aD qS)
theorem wSum (v:Value) (h0:Nat) (h0l:h0<18446744073709551616) (l:List Nat) (hb:∀ n∈l,n<256) (hl:l.length≤1000000):aY Tryz.prog 135 [.int .u64 (h0:Nat),v] [(v,BD l)] (fun r os fs=>os=[]∧fs=[]∧r=.int .u64 (oX h0 l:Nat)):=by
 refine mV Tryz.func135 ?_
 refine aS (v:=v) (n:=l.length) (size:=1) qM fun _=>?_
 refine bD (X:=Nat) (fun i=>([(0,.int .u64 (oX h0 (l.take i):Nat)),(7,v),(8,.int .i64 (l.length:Nat)),(9,.int .i64 (i:Nat))],[],[(v,BD l)])) (fun i=>i≤l.length) (fun i=>l.length - i) rfl ?_ ?_
 ·refine bB 0 (Nat.zero_le _) trivial ?_ (aD qS)
  simp only [List.take_zero,sumV_nil]
  exact qF
 intro i hi
 replace hi:i≤l.length:=hi
 refine aO _ rfl (fun hlt=>?_) (fun hlt=>?_)
 ·have hil:i<l.length:=by omega
  have hc:l.getD i 0<256:=hb _ (eZ 0 hil)
  have hs:oX h0 (l.take i)<18446744073709551616:=q9 _ _ h0l
  have hsu:=sumV_take (h:=h0) hil
  refine aZ (v:=v) (n:=l.length) (size:=1) qM i rfl hil fun a1=>?_
  refine bF (u:=.int .u8 (l.getD i 0:Nat)) qM ?_
  generalize l.getD i 0=c at *
  generalize oX h0 (l.take i)=h at *
  refine bJ ⟨_,Tryz.underlying5⟩ Tryz.underlying22 ((c:Nat):Int) (by rw [dA]; omega) ?_
  refine xor_rule h c rfl rfl hs qN ?_
  refine dQ (n:=((h ^^^ c:Nat):Int)*1099511628211) rfl ((sumS h c:Nat):Int) (by rw [dA]; unfold sumS; omega) ?_
  generalize sumS h c=h2 at *
  refine ar rfl qI ?_
  refine bB (i+1) qO qO ?_ (aD qS)
  simp only [hsu]
  exact qF
 ·obtain rfl:i=l.length:=by omega
  rw [List.take_length]
  exact fin ⟨rfl,rfl,rfl⟩ (aD qS)
theorem wNum {fs:List bA} {K:cE} (sv:Value) (l:List Nat) (rest:List Own) (n:Nat) (hs:eQ sv) (hn:n<18446744073709551616) (hl:l.length≤900000)
  (kk:∀ sv',eQ sv'→K sv' (kN sv' (l++leN n 8)::rest) fs) :
  CallK Tryz.prog false (.func (.func 134) #[] #[]) [sv,.int .u64 (n:Nat)] (kN sv l::rest) fs K:=by
 refine bX (args:=[sv,.int .u64 (n:Nat)]) (caps:=[]) Tryz.func134 qK rfl qK (Nat.le_of_ble_eq_true rfl) ?_
 refine bD (X:=Nat×Value) (fun x=>([(0,x.2),(1,.int .u64 (n:Nat)),(6,.int .i64 (x.1:Nat))],kN x.2 (l++leN n x.1)::rest,fs)) (fun x=>x.1≤8∧eQ x.2) (fun x=>8 - x.1) rfl ?_ ?_
 ·refine bB (0,sv) ⟨Nat.zero_le _,hs⟩ trivial qF ?_
  simp only [leN_zero,List.append_nil]
  exact aT _ _
 rintro ⟨i,vo⟩ ⟨hi,hvo⟩
 simp only at hi hvo ⊢
 refine aO _ rfl (fun hlt=>?_) (fun hlt=>?_)
 ·refine ar rfl qI ?_
  refine dJ n (8*i) (2^(8*i)) rfl qN rfl (by show 8*i≤64; omega) ?_
  refine bJ ⟨_,Tryz.underlying22⟩ Tryz.underlying5 _ (lT _) ?_
  refine lit_byte _ fun l1=>?_
  refine app_byte 0 rfl hvo (.head _) (by simp [dO]; omega) fun u3 hu3=>?_
  refine ar rfl qI ?_
  refine bB (i+1,u3) ⟨qO,hu3⟩ qO qF ?_
  simp only [tH,← List.append_assoc]
  exact aD (fun F hF=>.tail _ hF)
 ·obtain rfl:i=8:=by omega
  exact fin (kk vo hvo) (aT _ _)
theorem leV_take:∀ {l:List Nat} {i:Nat},i<l.length→leV (l.take (i+1))=leV (l.take i)+l.getD i 0*2^(8*i)
 | c::r,0,_=>by simp [leV]
 | c::r,i+1,h=>by
  have ih:=leV_take (l:=r) (i:=i) (by simpa using h)
  simp only [List.take_succ_cons,leV] at ih ⊢
  rw [ih,show 8*(i+1)=8+8*i by omega,Nat.pow_add,show (2:Nat)^8=256 from rfl,show (c::r).getD (i+1) 0=r.getD i 0 by simp]
  rw [Nat.mul_add,← Nat.mul_assoc,← Nat.mul_assoc,Nat.mul_comm 256 (r.getD i 0)]
  omega
theorem wRead (v:Value) (l:List Nat) (hb:∀ n∈l,n<256) (h8:8≤l.length) (hl:l.length≤1000000):aY Tryz.prog 82 [v] [(v,BD l)] (fun r os fs=>os=[]∧fs=[]∧r=.int .u64 (leV (l.take 8):Nat)):=by
 refine mV Tryz.func82 ?_
 refine bD (X:=Nat) (fun i=>([(0,v),(3,.int .u64 (leV (l.take i):Nat)),(5,.int .i64 (i:Nat))],[],[(v,BD l)])) (fun i=>i≤8) (fun i=>8 - i) rfl ?_ ?_
 ·exact bB 0 (Nat.zero_le _) trivial qF (aD qS)
 intro i hi
 replace hi:i≤8:=hi
 refine aO _ rfl (fun hlt=>?_) (fun hlt=>?_)
 ·have hil:i<l.length:=by omega
  have hi8:i<8:=by omega
  have hc:l.getD i 0<256:=hb _ (eZ 0 hil)
  have hs:leV (l.take i)<2^(8*i):=by
   have:=leV_lt (l:=l.take i) fun n hn=>hb n (List.mem_of_mem_take hn)
   rwa [List.length_take,Nat.min_eq_left qN,show (256:Nat)=2^8 from rfl,← Nat.pow_mul] at this
  have hsu:=leV_take hil
  refine aZ (v:=v) (n:=l.length) (size:=1) qM i rfl hil fun a1=>?_
  refine bF (u:=.int .u8 (l.getD i 0:Nat)) qM ?_
  generalize l.getD i 0=c at *
  generalize leV (l.take i)=h at *
  have hp:2^(8*i)*256≤18446744073709551616:=by
   have:2^(8*i)*2^8≤2^64:=by rw [← Nat.pow_add]; exact Nat.pow_le_pow_right qE qN
   simpa using this
  have hcp:c*2^(8*i)+2^(8*i)≤18446744073709551616:=by
   have:(c+1)*2^(8*i)≤256*2^(8*i):=Nat.mul_le_mul_right _ qN
   rw [Nat.add_mul,Nat.one_mul,Nat.mul_comm 256] at this
   omega
  have hor:h ||| c*2^(8*i)=h+c*2^(8*i):=by
   rw [Nat.or_comm,Nat.mul_comm c,← Nat.two_pow_add_eq_or_of_lt hs,Nat.add_comm]
  refine bJ ⟨_,Tryz.underlying5⟩ Tryz.underlying22 ((c:Nat):Int) (by rw [dA]; omega) ?_
  refine ar rfl qI ?_
  refine jF c (8*i) rfl qN qN ?_
  generalize 2^(8*i)=q at *
  rw [Nat.mod_eq_of_lt qN]
  refine nI h (c*q) rfl rfl qN qN ?_
  rw [hor,← hsu]
  refine ar rfl qI ?_
  exact bB (i+1) qO qO qF (aD qS)
 ·obtain rfl:i=8:=by omega
  exact fin ⟨rfl,rfl,rfl⟩ (aD qS)
def chW (k at':Nat) (b:List Nat):List (Nat×List Nat):=(List.range k).map fun j=>(at'+j,k6 ((b.drop (512*j)).take 512))
theorem chW_succ (k at':Nat) (b:List Nat):chW (k+1) at' b=chW k at' b++[(at'+k,k6 ((b.drop (512*k)).take 512))]:=by simp [chW,List.range_succ]
theorem lB (k at':Nat) (b:List Nat):(chW k at' b).length=k:=by simp [chW]
theorem wPut {fs:List bA} {K:cE} (r n:Nat) (mv lv u:Value) (L W:List (Nat×List Nat)) (rest:List Own) (at':Nat) (b:List Nat) (hat:at'+bV b.length≤n) (hn:n≤4096) (hb:b.length≤1000000) (hu:(u,BD b)∈fs) (hl:eQ lv) (hW:W.length≤5000)
  (kk:∀ lv',eQ lv'→K (.int .i64 0) (dkO r n mv lv'::e9 jN z512 mv L::kU 513 mM (0,z512) lv' (W++chW (bV b.length) at' b)::rest) fs) :
  CallK Tryz.prog false (.func (.func 112) #[] #[]) [cN r,.int .i64 (at':Nat),u] (dkO r n mv lv::e9 jN z512 mv L::kU 513 mM (0,z512) lv W::rest) fs K:=by
 have hsv:bV b.length=(b.length+511)/512:=rfl
 refine bX (args:=[cN r,.int .i64 (at':Nat),u]) (caps:=[]) Tryz.func112 qK rfl qK (Nat.le_of_ble_eq_true rfl) ?_
 refine bD (X:=Nat×Value×Value) (fun x=>([(0,cN r),(1,.int .i64 ((at'+x.1:Nat):Nat)),(2,x.2.1)],dkO r n mv x.2.2::e9 jN z512 mv L::kU 513 mM (0,z512) x.2.2 (W++chW x.1 at' b)::rest,(x.2.1,BD (b.drop (512*x.1)))::fs)) (fun x=>x.1≤bV b.length∧eQ x.2.2) (fun x=>bV b.length - x.1) rfl ?_ ?_
 ·refine bB (0,u,lv) ⟨Nat.zero_le _,hl⟩ trivial qF ?_
  simp only [chW,List.range_zero,List.map_nil,List.append_nil,Nat.mul_zero,List.drop_zero]
  exact aD (fun F hF=>by
   rcases List.mem_cons.1 hF with rfl | hF
   ·exact hu
   ·exact hF)
 rintro ⟨j,c,l2⟩ ⟨hj,hl2⟩
 simp only at hj hl2 ⊢
 have hdl:(b.drop (512*j)).length=b.length - 512*j:=by simp
 have hcs:=chW_succ j at' b
 have hcl:=lB j at' b
 refine aS (v:=c) (n:=(b.drop (512*j)).length) (size:=1) (.head _) fun _=>?_
 refine aO (0<(((b.drop (512*j)).length:Nat):Int)) rfl (fun hlt=>?_) (fun hlt=>?_)
 ·refine aS (v:=c) (n:=(b.drop (512*j)).length) (size:=1) (.head _) fun _=>?_
  refine gJ ?_
  have hdd:(b.drop (512*j)).drop (min (b.drop (512*j)).length 512)=b.drop (512*(j+1)):=by
   rw [List.drop_drop,hdl]
   rcases Nat.le_total (b.length - 512*j) 512 with h | h
   ·rw [Nat.min_eq_left h,List.drop_eq_nil_of_le qN,List.drop_eq_nil_of_le qN]
   ·rw [Nat.min_eq_right h]; congr 1
  have htt:(b.drop (512*j)).take (min (b.drop (512*j)).length 512)=(b.drop (512*j)).take 512:=by
   rcases Nat.le_total (b.drop (512*j)).length 512 with h | h
   ·rw [Nat.min_eq_left h,List.take_length,List.take_of_length_le h]
   ·rw [Nat.min_eq_right h]
  generalize b.drop (512*j)=d at *
  rw [show min ((d.length:Nat):Int) 512=((min d.length 512:Nat):Int) by omega]
  refine eV (v:=c) (l:=d) (.head _) 0 (min d.length 512) _ _ (kl:=.i64) (kh:=.i64) (.inl ⟨rfl,rfl⟩) (.inr rfl) (Nat.zero_le _) qN fun s1=>?_
  rw [List.drop_zero,htt]
  refine dWrite r n mv l2 s1 L _ rest (at'+j) qN hn (d.take 512) (by rw [List.length_take]; omega) (.head _) hl2 (by rw [List.length_append,hcl]; omega) fun l3 hl3=>?_
  refine aL rfl qN ?_
  refine eV (v:=c) (l:=d) (.tail _ (.head _)) (min d.length 512) d.length _ _ (kl:=.i64) (kh:=.i64) (.inr rfl) (.inl ⟨rfl,rfl⟩) qN (Nat.le_refl _) fun s2=>?_
  rw [List.take_length,hdd]
  refine ar rfl qI ?_
  refine bB (j+1,s2,l3) ⟨qO,hl3⟩ qO qF ?_
  simp only [hcs,← List.append_assoc]
  exact aD (fun F hF=>by
   rcases List.mem_cons.1 hF with rfl | hF
   ·exact .head _
   ·repeat (first | exact hF | apply List.Mem.tail))
 ·obtain rfl:j=bV b.length:=by omega
  exact fin (kk l2 hl2) (aD (fun F hF=>.tail _ hF))
theorem sF {n k at':Nat} {b:List Nat} (h:at'+k≤n):∀ x∈chW k at' b,x.1<n∧x.2.length=512:=fun x hx=>by
 obtain ⟨j,hj,rfl⟩:=List.mem_map.1 hx
 have:=List.mem_range.1 hj
 exact ⟨by simp only; omega,s9 (by rw [List.length_take]; omega)⟩
theorem tR {fs:List bA} {K:cE} (r n rm:Nat) (lv u:Value) (L W:List (Nat×List Nat)) (rest:List Own) (at':Nat) (b:List Nat) (hat:at'+bV b.length≤n) (hn:n≤4096) (hb:b.length≤1000000) (hu:(u,BD b)∈fs) (hl:eQ lv) (hW:W.length≤5000)
  (hL:DkOk n L) (hWo:∀ x∈W,x.1<n∧x.2.length=512) (hlen:L.length≤50000)
  (kk:K (.int .i64 0) (dkO r n (.map (some rm)) (.slice none 0 0)::e9 jN z512 (.map (some rm)) (fP L (W++chW (bV b.length) at' b))::kU 513 mM (0,z512) (.slice none 0 0) []::rest) fs) :
  CallK Tryz.prog false (.func (.func 105) #[] #[]) [cN r,.int .i64 (at':Nat),u] (dkO r n (.map (some rm)) lv::e9 jN z512 (.map (some rm)) L::kU 513 mM (0,z512) lv W::rest) fs K:=by
 have hcl:=lB (bV b.length) at' b
 refine bX (args:=[cN r,.int .i64 (at':Nat),u]) (caps:=[]) Tryz.func105 qK rfl qK (Nat.le_of_ble_eq_true rfl) ?_
 refine wPut r n (.map (some rm)) lv u L W rest at' b hat hn hb hu hl hW fun l2 hl2=>?_
 refine aL rfl qN ?_
 refine tK r n rm l2 L _ rest hn hL (fun x hx=>(List.mem_append.1 hx).elim (hWo x) (sF hat x)) hl2 (by rw [List.length_append,hcl]; omega) ?_
 exact fin kk (aT _ _)
theorem sB_size (l:List Nat):(sB l).size=l.length:=by
 have h:(sB l).data.toList=_:=strOfNums_data _
 show (sB l).data.size=_
 rw [← Array.length_toList,h]; simp
theorem sB_get {l:List Nat} {i:Nat} (hb:∀ n∈l,n<256) (hi:i<l.length):((sB l).data.toList.getD i 0).toNat=l.getD i 0:=by
 have h:(sB l).data.toList=_:=strOfNums_data _
 have hl:l.getD i 0<256:=hb _ (eZ 0 hi)
 rw [h]
 simp [gE,hi] at hl ⊢
 omega
theorem conv_text {P:Program} {src dst e:TypeId} {u0:TypeDesc} {l:List Nat} {os:List Own} {fs:List bA} {K:cE} (hs:P.underlying src=some u0) (hd:P.underlying dst=some (.slice e)) (he:P.underlying e=some (.int .u8)) (hb:∀ n∈l,n<256) (hl:l.length≤1000000)
  (k:∀ v,eQ v→K v (kN v l::os) fs):ConvK P false src dst (.string (sB l)) os fs K:=by
 refine ⟨fun G w hw=>?_,fun h=>by cases h⟩
 have hrun:=Lib.run_convert_string_bytes (P:=P) w src dst e (sB l) hs hd he
 rw [gO hrun]
 have hsz:=sB_size l
 have hge:=grownCap_ge w (sB l).size 0 e
 have hcm:grownCap w (sB l).size 0 e≤maxLen:=grownCap_le_maxLen w (sB l).size 0 e (by unfold maxLen; omega)
 have hcs:(Lib.bytesCells w e (sB l)).size=grownCap w (sB l).size 0 e:=by
  have:(sB l).data.size=l.length:=hsz
  simp [Lib.bytesCells]; omega
 have hbel:Below w.heap.size w (Lib.bytesWorld w e (sB l)):=by
  refine ⟨?_,?_,?_,by rw [Lib.bytesWorld_size]; omega,fun q hq=>Lib.bytesWorld_at_old w e (sB l) q hq⟩ <;>
   (unfold Lib.bytesWorld World.freeze; split <;> rfl)
 have hnew:=Lib.bytesWorld_at_new w e (sB l)
 refine ⟨_,fs,k _ ⟨_,_,_,rfl⟩,hw.alloc _ (.cells #[] e) _ hbel rfl (.inr rfl) (.inr (.inl ⟨w.heap.size,grownCap w (sB l).size 0 e,by simp [kN,kU,bL,hsz],hw.size,?_,hcm,_,e,⟨_,hnew,.inr (Nat.le_refl _)⟩,?_,fun i hi=>?_⟩))⟩
 ·simp only [kN,kU,bL]; omega
 ·simp only [kN,kU,bL]; omega
 ·simp only [kN,kU,bL] at hi ⊢
  refine ⟨[.int .u8 (l.getD i 0:Nat)],⟨rfl,rfl⟩,rfl,fun j hj=>?_⟩
  obtain rfl:j=0:=by omega
  have h1:=Lib.bytesWorld_cell w e (sB l) i qN
  rw [sB_get hb hi] at h1
  simp only [World.cell?,hnew] at h1
  simpa using h1
def i64N (n:Nat):Dat:=.one (.int .i64 (n:Nat))
theorem lit_nums {P:Program} {t e:TypeId} {bytes:Nat} {os:List Own} {fs:List bA} {K:cE} [ht:TSl P t e 1] [he:TEl P e 1 bytes] (l:List Nat) {n:Nat} {ps:List (Nat×Value)} (hps:ps=nR 0 (l.map fun n=>.int .i64 (n:Nat))) (hn:n=l.length) (hsm:n≤1000) (k:∀ v,K v os ((v,LD 1 i64N 0 l)::fs)):BuildSliceK P t n ps os fs K:=by
 have h1:=gZ (P:=P) (t:=t) (os:=os) (fs:=fs) (K:=fun u os' fs'=>∃ os'' fs'',Seals os' fs' os'' fs''∧K u os'' fs'') (n:=n) (l.map fun n=>.int .i64 (n:Nat)) (l.map i64N) hps (by simpa using hn) qN qE (m9 (fun _=>rfl) l)
 refine ⟨Grw.sealed (h1 fun v hv=>⟨_,_,?_,k v⟩).out⟩
 have h2:=Seals.own_cong (hsz:=.inl qE) (os:=bL v 1 n (fun i=>(l.map i64N).getD i (.one undef))::os) (fs:=fs) 0 (n':=l.length) (fun i=>i64N (l.getD i 0)) rfl hn fun i hi=>by
  simp [gE,List.getElem?_map,show i<l.length by omega]
 exact aM h2 (Seals.L (f:=i64N) (z:=0) (size:=1) (v:=v) (l:=l) 0 rfl hv)
def sQ (L:List Nat) (a b n:Nat):List Nat:=L++les [a,b,n]
def gA (L:List Nat) (a b:Nat) (data:List Nat):List Nat:=sQ L a b data.length++leN (oX (oX sW (sQ L a b data.length)) data) 8
theorem headA_len (L:List Nat) (a b n:Nat):(sQ L a b n).length=L.length+24:=by simp [sQ,jT]
theorem jL (L:List Nat) (a b:Nat) (data:List Nat):(gA L a b data).length=L.length+32:=by simp [gA,headA_len,dO]
theorem byt_headA {L:List Nat} (h:Byt L) (a b n:Nat):Byt (sQ L a b n):=h.app (nT _)
theorem byt_head {L:List Nat} (h:Byt L) (a b:Nat) (data:List Nat):Byt (gA L a b data):=(byt_headA h _ _ _).app (iB _ _)
theorem sum0_lt:sW<18446744073709551616:=by unfold sW; omega
theorem wHead (u:Value) (L:List Nat) (a b:Nat) (data:List Nat) (hL:Byt L) (hll:L.length≤8) (hd:Byt data) (hdl:data.length≤100000) (ha:a<9223372036854775808) (hb:b<9223372036854775808) :
  aY Tryz.prog 106 [.string (sB L),.int .i64 (a:Nat),.int .i64 (b:Nat),u] [(u,BD data)] (fun r os fs=>os=[]∧fs=[(r,BD (gA L a b data))]):=by
 refine mV Tryz.func106 ?_
 refine conv_text Tryz.underlying9 Tryz.underlying37 Tryz.underlying5 hL qN fun v1 hv1=>?_
 refine aS (v:=u) (n:=data.length) (size:=1) qM fun _=>?_
 refine lit_nums [a,b,data.length] rfl rfl qE fun v2=>?_
 refine aS (v:=v2) (n:=[a,b,data.length].length) (size:=1) qM fun _=>?_
 refine bD (X:=Nat×Value) (fun x=>([(3,u),(9,x.2),(18,v2),(19,.int .i64 3),(20,.int .i64 (x.1:Nat))],[kN x.2 (L++les ([a,b,data.length].take x.1))],[(v2,LD 1 i64N 0 [a,b,data.length]),(u,BD data)])) (fun x=>x.1≤3∧eQ x.2) (fun x=>3 - x.1) rfl ?_ ?_
 ·refine bB (0,v1) ⟨Nat.zero_le _,hv1⟩ trivial qF ?_
  simp only [List.take_zero,les,List.flatMap_nil,List.append_nil]
  exact aD qS
 rintro ⟨i,vo⟩ ⟨hi,hvo⟩
 simp only at hi hvo ⊢
 refine aO _ rfl (fun hlt=>?_) (fun hlt=>?_)
 ·have hil:i<[a,b,data.length].length:=by show i<3; omega
  have htk:=tG hil
  have hlen:(les ([a,b,data.length].take i)).length≤24:=by rw [jT,List.length_take]; simp only [List.length_cons,List.length_nil]; omega
  have hx:[a,b,data.length].getD i 0<9223372036854775808:=by
   obtain rfl | rfl | rfl:i=0∨i=1∨i=2:=by omega
   ·exact ha
   ·exact hb
   ·show data.length<_; omega
  refine aZ (v:=v2) (n:=[a,b,data.length].length) (size:=1) (el:=fun i=>i64N ([a,b,data.length].getD i 0)) qM i rfl hil fun a1=>?_
  generalize [a,b,data.length].getD i 0=x at *
  refine bF (u:=.int .i64 (x:Nat)) qM ?_
  refine bJ ⟨_,Tryz.underlying3⟩ Tryz.underlying22 ((x:Nat):Int) (by rw [dA]; omega) ?_
  refine wNum vo _ [] x hvo qN (by simp only [List.length_append]; omega) fun sv' hsv'=>?_
  refine ar rfl qI ?_
  refine bB (i+1,sv') ⟨qO,hsv'⟩ qO qF ?_
  simp only [htk,← List.append_assoc]
  exact aD qS
 ·obtain rfl:i=3:=by omega
  have e1:L++les ([a,b,data.length].take 3)=sQ L a b data.length:=rfl
  rw [e1]
  have hA:=byt_headA hL a b data.length
  have hAl:=headA_len L a b data.length
  have hV:gA L a b data=sQ L a b data.length++leN (oX (oX sW (sQ L a b data.length)) data) 8:=rfl
  rw [hV]
  generalize sQ L a b data.length=A at *
  refine qG (wSum vo sW sum0_lt A hA qN) (Seals.B 0 rfl hvo) (aX qM (bP _)) ?_
  rintro _ _ _ ⟨rfl,rfl,rfl⟩
  have h1:=q9 A sW sum0_lt
  generalize oX sW A=s1 at *
  refine cH (wSum u s1 h1 data hd qN) ?_
  have h2:=q9 data s1 h1
  generalize oX s1 data=s2 at *
  refine wNum vo A [] s2 hvo h2 qN fun sv' hsv'=>?_
  exact fin ⟨rfl,rfl⟩ (aM (Seals.B 0 rfl hsv') (aD (fs':=[(sv',BD (A++leN s2 8))]) qS))
def getA (L:List (Nat×List Nat)) (at' k:Nat):List Nat:=(List.range k).flatMap fun i=>lkN z512 L (at'+i)
def getV (L:List (Nat×List Nat)) (at' n:Nat):List Nat:=(getA L at' (bV n)).take n
theorem nQ (L:List (Nat×List Nat)) (at' k:Nat):getA L at' (k+1)=getA L at' k++lkN z512 L (at'+k):=by simp [getA,List.range_succ]
theorem DkOk.len {n:Nat} {L:List (Nat×List Nat)} (h:DkOk n L) (i:Nat):(lkN z512 L i).length=512:=by
 rcases lkN_mem (z:=z512) (M:=L) (i:=i) with h' | ⟨t,ht,_,h'⟩
 ·rw [h']; exact kR
 ·rw [h']; exact (h.lt t ht).2
theorem tJ {n:Nat} {L:List (Nat×List Nat)} (h:DkOk n L) (at':Nat):∀ k,(getA L at' k).length=512*k
 | 0=>rfl
 | k+1=>by rw [nQ,List.length_append,tJ h at' k,h.len]; omega
theorem getV_len {n:Nat} {L:List (Nat×List Nat)} (h:DkOk n L) (at' k:Nat):(getV L at' k).length=k:=by
 unfold getV; rw [List.length_take,tJ h]; unfold bV; omega
def DkB (L:List (Nat×List Nat)):Prop:=∀ i,Byt (lkN z512 L i)
theorem byt_get {L:List (Nat×List Nat)} (h:DkB L) (at' n:Nat):Byt (getV L at' n):=fun x hx=>by
 obtain ⟨i,_,hi⟩:=List.mem_flatMap.1 (List.mem_of_mem_take hx)
 exact h _ _ hi
theorem wGet {fs:List bA} {K:cE} (r n rm:Nat) (L:List (Nat×List Nat)) (rest:List Own) (at' k:Nat) (hat:at'+bV k≤n) (hn:n≤4096) (hL:DkOk n L) (hk:k≤1000000)
  (kk:∀ x,K x (dkO r n (.map (some rm)) (.slice none 0 0)::e9 jN z512 (.map (some rm)) L::rest) ((x,BD (getV L at' k))::fs)) :
  CallK Tryz.prog false (.func (.func 109) #[] #[]) [cN r,.int .i64 (at':Nat),.int .i64 (k:Nat)] (dkO r n (.map (some rm)) (.slice none 0 0)::e9 jN z512 (.map (some rm)) L::rest) fs K:=by
 refine bX (args:=[cN r,.int .i64 (at':Nat),.int .i64 (k:Nat)]) (caps:=[]) Tryz.func109 qK rfl qK (Nat.le_of_ble_eq_true rfl) ?_
 refine cH (pF k hk) ?_
 generalize hS:bV k=S at *
 have hnil:Seals (dkO r n (.map (some rm)) (.slice none 0 0)::e9 jN z512 (.map (some rm)) L::rest) fs (dkO r n (.map (some rm)) (.slice none 0 0)::e9 jN z512 (.map (some rm)) L::kN (.slice none 0 0) []::rest) fs :=
  aM (dG _ _ 1 fun i=>by8 (([]:List Nat).getD i 0)) (bK (nD _ _ _ _))
 have hgo:∀ v l,eQ v→Seals (dkO r n (.map (some rm)) (.slice none 0 0)::e9 jN z512 (.map (some rm)) L::kN v l::rest) fs (dkO r n (.map (some rm)) (.slice none 0 0)::e9 jN z512 (.map (some rm)) L::rest) ((v,BD l)::fs) :=
  fun v l hv=>Seals.B 2 rfl hv
 refine bD (X:=Nat×Value) (fun x=>([(0,cN r),(1,.int .i64 (at':Nat)),(2,.int .i64 (k:Nat)),(7,x.2),(12,.int .i64 (S:Nat)),(13,.int .i64 (x.1:Nat))],
  (if x.1<S then dkO r n (.map (some rm)) (.slice none 0 0)::e9 jN z512 (.map (some rm)) L::kN x.2 (getA L at' x.1)::rest else dkO r n (.map (some rm)) (.slice none 0 0)::e9 jN z512 (.map (some rm)) L::rest),
  (if x.1<S then fs else (x.2,BD (getA L at' x.1))::fs))) (fun x=>x.1≤S∧eQ x.2) (fun x=>S - x.1) rfl ?_ ?_
 ·refine bB (0,.slice none 0 0) ⟨Nat.zero_le _,eP⟩ trivial qF ?_
  rcases Nat.lt_or_ge 0 S with h | h
  ·simp only [if_pos h]
   exact hnil
  ·simp only [if_neg (Nat.not_lt.2 h)]
   exact aM hnil (hgo _ _ eP)
 rintro ⟨i,vo⟩ ⟨hi,hvo⟩
 simp only at hi hvo ⊢
 have hg:=tJ hL at' i
 rcases Nat.lt_or_ge i S with h | h
 ·rw [if_pos h,if_pos h]
  refine bG rfl qN ?_
  have hsu:=nQ L at' i
  refine ar rfl qI ?_
  refine dRead r n rm L _ (at'+i) qN hn hL fun x=>?_
  have hl:=hL.len (at'+i)
  generalize lkN z512 L (at'+i)=s at *
  have hsk:S≤2000:=by rw [← hS]; unfold bV; omega
  refine eU 2 rfl hvo (cI (.head _)) qN qN fun vo2 hvo2=>?_
  refine ar rfl qI ?_
  refine bB (i+1,vo2) ⟨qO,hvo2⟩ qO qF ?_
  rcases Nat.lt_or_ge (i+1) S with h | h
  ·simp only [if_pos h,hsu]
   exact aD (fun F hF=>.tail _ hF)
  ·simp only [if_neg (Nat.not_lt.2 h),hsu]
   exact aM (aD (fun F hF=>.tail _ hF)) (hgo _ _ hvo2)
 ·rw [if_neg (Nat.not_lt.2 h),if_neg (Nat.not_lt.2 h)]
  refine aL rfl qN ?_
  obtain rfl:i=S:=by omega
  refine eV (v:=vo) (l:=getA L at' i) (.head _) 0 k _ _ (kl:=.i64) (kh:=.i64) (.inl ⟨rfl,rfl⟩) (.inr rfl) (Nat.zero_le _) (by rw [hg,← hS]; unfold bV; omega) fun u=>?_
  rw [List.drop_zero,show (getA L at' i).take k=getV L at' k by unfold getV; rw [hS]]
  exact fin (kk u) (aD (fun F hF=>by
   rcases List.mem_cons.1 hF with rfl | hF
   ·exact .head _
   ·exact .tail _ (.tail _ hF)))
abbrev dkC (r n rm:Nat) (L:List (Nat×List Nat)) (rest:List Own):List Own:=dkO r n (.map (some rm)) (.slice none 0 0)::e9 jN z512 (.map (some rm)) L::rest
theorem leV_lt64 {l:List Nat} (h:Byt l):leV (l.take 8)<18446744073709551616:=by
 have h1:=leV_lt (l:=l.take 8) fun n hn=>h n (List.mem_of_mem_take hn)
 have h2:(256:Nat)^(l.take 8).length≤256^8:=Nat.pow_le_pow_right qE (by rw [List.length_take]; omega)
 have h3:(256:Nat)^8=18446744073709551616:=by decide
 omega
def cntV (s:List Nat):Nat:=leV ((s.drop 20).take 8)
def gN (L:List (Nat×List Nat)) (at':Nat) (T:List Nat) (a b most:Nat):Option (List Nat) :=
 if cntV (lkN z512 L at')≤most∧(lkN z512 L at').take 36=gA T a b (getV L (at'+1) (cntV (lkN z512 L at'))) then some (getV L (at'+1) (cntV (lkN z512 L at'))) else none
theorem wBehind {fs:List bA} {K:cE} (r n rm:Nat) (L:List (Nat×List Nat)) (rest:List Own) (at':Nat) (T:List Nat) (a b most:Nat) (hat:at'+1+bV most≤n) (hn:n≤4096) (hL:DkOk n L) (hB:DkB L) (hm:most≤90000) (hT:Byt T) (hTl:T.length=4) (ha:a<9223372036854775808) (hb:b<9223372036854775808)
  (k1:∀ x y,gN L at' T a b most=some y→K (.tuple #[x,.bool true]) (dkC r n rm L rest) ((x,BD y)::fs))
  (k0:∀ x,gN L at' T a b most=none→K (.tuple #[x,.bool false]) (dkC r n rm L rest) fs) :
  CallK Tryz.prog false (.func (.func 71) #[] #[]) [cN r,.int .i64 (at':Nat),.string (sB T),.int .i64 (a:Nat),.int .i64 (b:Nat),.int .i64 (most:Nat)] (dkC r n rm L rest) fs K:=by
 refine bX (args:=[cN r,.int .i64 (at':Nat),.string (sB T),.int .i64 (a:Nat),.int .i64 (b:Nat),.int .i64 (most:Nat)]) (caps:=[]) Tryz.func71 qK rfl qK (Nat.le_of_ble_eq_true rfl) ?_
 have hsm:bV most≤200:=by unfold bV; omega
 refine dRead r n rm L rest at' qN hn hL fun x=>?_
 refine aL rfl qN ?_
 have hl:=hL.len at'
 have hbs:=hB at'
 have hbv:gN L at' T a b most=if cntV (lkN z512 L at')≤most∧(lkN z512 L at').take 36=gA T a b (getV L (at'+1) (cntV (lkN z512 L at'))) then some (getV L (at'+1) (cntV (lkN z512 L at'))) else none:=rfl
 generalize lkN z512 L at'=s at *
 refine eV (v:=x) (l:=s) (.head _) 20 s.length _ _ (kl:=.i64) (kh:=.i64) (.inr rfl) (.inl ⟨rfl,rfl⟩) qN (Nat.le_refl _) fun s1=>?_
 rw [List.take_length]
 have hbd:Byt (s.drop 20):=fun c hc=>hbs c (List.mem_of_mem_drop hc)
 refine bN (wRead s1 (s.drop 20) hbd (by rw [List.length_drop]; omega) (by rw [List.length_drop]; omega)) (aT _ _) (aX (.head _) (bP _)) ?_
 rintro _ _ _ ⟨rfl,rfl,rfl⟩
 have hc64:=leV_lt64 hbd
 have hcn:leV ((s.drop 20).take 8)=cntV s:=rfl
 rw [hcn] at hc64 ⊢
 generalize cntV s=c at *
 refine bJ ⟨_,Tryz.underlying3⟩ Tryz.underlying22 ((most:Nat):Int) (by rw [dA]; omega) ?_
 refine aO _ rfl (fun hgt=>?_) (fun hgt=>?_)
 ·rw [if_neg qN] at hbv
  exact fin (k0 _ hbv) (aD (fun F hF=>.tail _ (.tail _ hF)))
 ·have hcm:c≤most:=by omega
  have hsc:bV c≤bV most:=by unfold bV; omega
  refine ar rfl qI ?_
  refine bJ ⟨_,Tryz.underlying22⟩ Tryz.underlying3 ((c:Nat):Int) (bT ⟨by omega,by omega⟩) ?_
  refine wGet r n rm L rest (at'+1) c qN hn hL qN fun d=>?_
  have hgl:=getV_len hL (at'+1) c
  have hgb:=byt_get hB (at'+1) c
  generalize getV L (at'+1) c=D at *
  refine bC [0,1,2,3,4,5,6,7,8,9,10] [0,1,2,3,4,5,6,7,8,9,10] qK qK ?_
  refine eV (v:=x) (l:=s) (.tail _ (.tail _ (.head _))) 0 36 _ _ (kl:=.i64) (kh:=.i64) (.inl ⟨rfl,rfl⟩) (.inr rfl) (Nat.zero_le _) qN fun s2=>?_
  rw [List.drop_zero]
  refine bN (wHead d T a b D hT qN hgb qN ha hb) (aT _ _) (aX (.tail _ (.head _)) (bP _)) ?_
  rintro h1 _ _ ⟨rfl,rfl⟩
  have hhb:=byt_head hT a b D
  have hhl:=jL T a b D
  generalize gA T a b D=H at *
  refine bN (bEqual s2 h1 (s.take 36) H (fun q hq=>hbs q (List.mem_of_mem_take hq)) hhb (by rw [List.length_take]; omega) qN) (aT _ _) (aX (.tail _ (.head _)) (aX (.head _) (bP _))) ?_
  rintro _ _ _ ⟨rfl,rfl,rfl⟩
  by_cases hq:s.take 36=H
  ·rw [if_pos ⟨hcm,hq⟩] at hbv
   rw [show decide (s.take 36=H)=true from decide_eq_true hq]
   exact fin (k1 d D hbv) (aD (fun F hF=>by
    rcases List.mem_cons.1 hF with rfl | hF
    ·exact .tail _ (.tail _ (.head _))
    ·exact .tail _ (.tail _ (.tail _ (.tail _ (.tail _ hF))))))
  ·rw [if_neg fun h=>hq h.2] at hbv
   rw [show decide (s.take 36=H)=false from decide_eq_false hq]
   exact fin (k0 _ hbv) (aD qD)
def jrD (r at' en ep nx:Nat):Dat:=.cat (.one (cN r)) (.cat (.one (.int .i64 (at':Nat))) (.cat (.one (.int .i64 (en:Nat))) (.cat (.one (.int .i64 (ep:Nat))) (.cat (.one (.int .i64 (nx:Nat))) (.one (.bool false))))))
def jrO (q r at' en ep nx:Nat):Own:=bL (cN q) 6 1 (fun _=>jrD r at' en ep nx)
theorem wGoes {fs:List bA} {K:cE} (q r at' en ep nx:Nat) (rest:List Own) (k:Nat) (hat:at'≤1000000) (hnx:nx≤1000000) (hk:k≤1000000)
  (kk:K (.tuple #[]) (jrO q r (at'+1+bV k) en ep (nx+1)::rest) fs) :
  CallK Tryz.prog false (.func (.func 72) #[] #[]) [cN q,.int .i64 (k:Nat)] (jrO q r at' en ep nx::rest) fs K:=by
 have hs:bV k≤2000:=by unfold bV; omega
 refine bX (args:=[cN q,.int .i64 (k:Nat)]) (caps:=[]) Tryz.func72 qK rfl qK (Nat.le_of_ble_eq_true rfl) ?_
 refine bC [0,1,2,3,4,5,6,7,8,9,10] [0,1,2,3,4,5,6,7,8,9,10] qK qK ?_
 refine aF 0 rfl (aU q) ?_
 refine aB (u:=.int .i64 (at':Nat)) (e:=fun _=>jrD r at' en ep nx) 0 rfl (aC (aJ (aG _))) ?_
 refine cH (pF k hk) ?_
 refine ar rfl qI ?_
 refine ar rfl qI ?_
 refine aF 0 rfl (aU q) ?_
 rw [show ((at':Nat):Int)+(1+(bV k:Nat))=((at'+1+bV k:Nat):Int) by omega]
 refine cP (e:=fun _=>jrD r at' en ep nx) 0 rfl (aU q) (Rep.rk (Rep.left (cD (n:=.one (.int .i64 ((at'+1+bV k:Nat):Int))) rfl)) rfl) (aP rfl) ?_
 refine aF 0 rfl (aU q) ?_
 refine aB (u:=.int .i64 (nx:Nat)) (e:=fun _=>jrD r (at'+1+bV k) en ep nx) 0 rfl (aC (aC (aC (aC (aJ (aG _)))))) ?_
 refine ar rfl qI ?_
 refine aF 0 rfl (aU q) ?_
 refine cP (e:=fun _=>jrD r (at'+1+bV k) en ep nx) 0 rfl (aU q) (Rep.rk (Rep.rk (Rep.rk (Rep.rk (Rep.left (cD (n:=.one (.int .i64 ((nx+1:Nat):Int))) rfl)) rfl) rfl) rfl) rfl) (aP rfl) ?_
 exact fin kk (aT _ _)
def uW:List Nat:=[74,82,78,76]
def t8:List Nat:=[83,76,79,84]
theorem tL:Byt uW:=by unfold Byt uW; decide
theorem byt_slot:Byt t8:=by unfold Byt t8; decide
theorem vS {n:Nat} {L:List (Nat×List Nat)} (h:DkOk n L) {at':Nat} {T y:List Nat} {a b most:Nat} (hy:gN L at' T a b most=some y):y.length≤most:=by
 unfold gN at hy
 split at hy
 ·rename_i h1
  obtain rfl:=Option.some.inj hy
  rw [getV_len h]; exact h1.1
 ·cases hy
def uN (en at':Nat):Nat:=min 2048 (512*(en - at' - 1))
def pQ (L:List (Nat×List Nat)) (en ep:Nat):Nat→Nat→Nat→List (List Nat)→Nat×Nat×List (List Nat)
 | 0,at',nx,R=>(at',nx,R)
 | f+1,at',nx,R=>if at'<en then (match gN L at' uW ep nx (uN en at') with
   | some y=>pQ L en ep f (at'+1+bV y.length) (nx+1) (R++[y])
   | none=>(at',nx,R)) else (at',nx,R)
def openV (L:List (Nat×List Nat)) (from' size ep:Nat):Nat×Nat×List (List Nat):=pQ L (from'+size) ep size from' 0 []
theorem l7 (L:List (Nat×List Nat)) (en ep f at' nx:Nat) (R:List (List Nat)) (h:en≤at'∨gN L at' uW ep nx (uN en at')=none):pQ L en ep f at' nx R=(at',nx,R):=by
 cases f with
 | zero=>rfl
 | succ f =>
  unfold pQ
  rcases h with h | h
  ·rw [if_neg qN]
  ·split
   ·rw [h]
   ·rfl
theorem uI (L:List (Nat×List Nat)) (en ep f at' nx:Nat) (R:List (List Nat)) (y:List Nat) (h:at'<en) (hy:gN L at' uW ep nx (uN en at')=some y):pQ L en ep (f+1) at' nx R=pQ L en ep f (at'+1+bV y.length) (nx+1) (R++[y]):=by
 conv=>lhs; unfold pQ
 rw [if_pos h,hy]
set_option maxHeartbeats 1000000 in
theorem wOpen {fs:List bA} {K:cE} (r n rm:Nat) (L:List (Nat×List Nat)) (rest:List Own) (from' size ep:Nat) (hfr:from'+size≤n) (hn:n≤4096) (hL:DkOk n L) (hB:DkB L) (hep:ep<9223372036854775808)
  (kk:∀ q v,K (.tuple #[cN q,v,.int .i64 0]) (dkC r n rm L (jrO q r (openV L from' size ep).1 (from'+size) ep (openV L from' size ep).2.1::rest)) ((v,LD 1 BD [] (openV L from' size ep).2.2)::fs)) :
  CallK Tryz.prog false (.func (.func 43) #[] #[]) [cN r,.int .i64 (from':Nat),.int .i64 (size:Nat),.int .i64 (ep:Nat)] (dkC r n rm L rest) fs K:=by
 generalize hV:openV L from' size ep=V at *
 obtain ⟨va,vn,vR⟩:=V
 refine bX (args:=[cN r,.int .i64 (from':Nat),.int .i64 (size:Nat),.int .i64 (ep:Nat)]) (caps:=[]) Tryz.func43 qK rfl qK (Nat.le_of_ble_eq_true rfl) ?_
 refine aL rfl qN ?_
 refine aL rfl qN ?_
 refine aL rfl qN ?_
 refine dSize r n _ _ _ ?_
 refine aL rfl qN ?_
 refine dSize r n _ _ _ ?_
 refine ar rfl qI ?_
 refine aL rfl qN ?_
 refine dDown' r n _ _ _ ?_
 refine ar rfl qI ?_
 refine dE [.one (cN r),.one (.int .i64 (from':Nat)),.one (.int .i64 ((from'+size:Nat):Int)),.one (.int .i64 (ep:Nat)),.one (.int .i64 ((0:Nat):Int)),.one (.bool false)] (by exact ⟨⟨aP rfl,rfl⟩,⟨aP rfl,rfl⟩,⟨aP rfl,rfl⟩,⟨aP rfl,rfl⟩,fun S w=>mO S w 0,fun S w=>bool_rd S w false,trivial⟩) fun u1=>?_
 refine aQ (aA (d:=jrD r from' (from'+size) ep 0) (.head _)) fun p1 hp1=>?_
 obtain ⟨q,rfl⟩:=hp1
 have hen:∃ en,en=from'+size:=⟨_,rfl⟩
 obtain ⟨en,hen⟩:=hen
 rw [← hen] at kk ⊢ hfr
 refine bD (X:=Nat×Nat×Value×List (List Nat)) (fun x=>([(0,cN r),(3,.int .i64 (ep:Nat)),(11,cN q),(12,x.2.2.1)],dkC r n rm L (jrO q r x.1 en ep x.2.1::kU 1 BD [] x.2.2.1 x.2.2.2::rest),fs)) (fun x=>x.1≤en∧x.2.1≤x.1∧x.2.2.2.length=x.2.1∧eQ x.2.2.1∧∃ f,en - x.1≤f∧pQ L en ep f x.1 x.2.1 x.2.2.2=(va,vn,vR)) (fun x=>en - x.1) rfl ?_ ?_
 ·refine bB (from',0,.slice none 0 0,[]) ⟨by simp only; omega,Nat.zero_le _,rfl,eP,size,by simp only; omega,by rw [hen]; exact hV⟩ trivial qF ?_
  refine aM (dG _ _ 1 fun i=>BD (([]:List (List Nat)).getD i [])) (aM (bK ?_) (aD (fun F hF=>.tail _ hF)))
  rw [hen]
  exact (List.Perm.swap _ _ _).trans ((List.Perm.cons _ (nD _ _ _ _)).trans (nD _ _ _ _))
 rintro ⟨at',nx,vo,R⟩ ⟨h1,h2,h3,h4,f,h5,h6⟩
 simp only at h1 h2 h3 h4 h5 h6 ⊢
 refine bC [0,1,2,3,4,5,6,7,8] [0,1,2,3,4,5,6,7,8] qK qK ?_
 refine aF 2 rfl (aU q) ?_
 refine aB (u:=.int .i64 (at':Nat)) (e:=fun _=>jrD r at' en ep nx) 2 rfl (aC (aJ (aG _))) ?_
 refine aF 2 rfl (aU q) ?_
 refine aB (u:=.int .i64 (en:Nat)) (e:=fun _=>jrD r at' en ep nx) 2 rfl (aC (aC (aJ (aG _)))) ?_
 refine aO _ rfl (fun hlt=>?_) (fun hlt=>?_)
 ·have hlt':at'<en:=by omega
  have hmo:uN en at'=min 2048 (512*(en - at' - 1)):=rfl
  have hms:at'+1+bV (uN en at')≤en:=by unfold bV; omega
  have hst:=uI L en ep (f - 1) at' nx R
  have hno:=l7 L en ep f at' nx R
  have hbl:=fun y=>vS (y:=y) hL (at':=at') (T:=uW) (a:=ep) (b:=nx) (most:=uN en at')
  rw [show f - 1+1=f by omega,h6] at hst
  rw [h6] at hno
  have hwb:=fun K k1 k0=>wBehind (K:=K) (fs:=fs) r n rm L (jrO q r at' en ep nx::kU 1 BD [] vo R::rest) at' uW ep nx (uN en at') qN hn hL hB qN tL rfl hep qN k1 k0
  generalize gN L at' uW ep nx (uN en at')=bv at *
  refine eT [0,1,2,3,4,5,6,7,8,9,10,11,12,13,14,15,16,17,18,19,20,21,22,23,24,26,25,27] qK ?_
  refine cX [] [] [] [22] [0,1,2,3,4,5,6,7,8,9,10,11,12,13,14,15,16,17,18,19,20,21,22,23,24,25,26,27] qK qK qK ?_
  refine aF 2 rfl (aU q) ?_
  refine aB (u:=.int .i64 (at':Nat)) (e:=fun _=>jrD r at' en ep nx) 2 rfl (aC (aJ (aG _))) ?_
  refine aF 2 rfl (aU q) ?_
  refine aB (u:=.int .i64 (nx:Nat)) (e:=fun _=>jrD r at' en ep nx) 2 rfl (aC (aC (aC (aC (aJ (aG _)))))) ?_
  refine aF 2 rfl (aU q) ?_
  refine aB (u:=.int .i64 (en:Nat)) (e:=fun _=>jrD r at' en ep nx) 2 rfl (aC (aC (aJ (aG _)))) ?_
  refine aF 2 rfl (aU q) ?_
  refine aB (u:=.int .i64 (at':Nat)) (e:=fun _=>jrD r at' en ep nx) 2 rfl (aC (aJ (aG _))) ?_
  refine ar rfl qI ?_
  refine ar rfl qI ?_
  refine ar rfl qI ?_
  refine gJ ?_
  rw [show min (2048:Int) (512*((en:Nat) - (at':Nat) - 1))=((uN en at':Nat):Int) by omega]
  refine hwb _ (fun x y hy=>?_) (fun x hy=>?_)
  ·have hyl:=hbl y hy
   have hys:bV y.length≤bV (uN en at'):=by unfold bV; omega
   refine rG (size:=1) BD [] y qE (aA (d:=BD y) (.head _)) rfl fun l1=>?_
   refine eU 3 rfl h4 (cI (.head _)) (by simp only [List.length_cons,List.length_nil]; omega) (by simp only [List.length_cons,List.length_nil]; omega) fun vo2 hvo2=>?_
   refine aS (v:=x) (n:=y.length) (size:=1) (.tail _ (.head _)) fun _=>?_
   refine cM (bK (nD _ _ _ _).symm) ?_
   refine wGoes q r at' en ep nx _ y.length qN qN qN ?_
   refine bB (at'+1+bV y.length,nx+1,vo2,R++[y]) ⟨by simp only; omega,by simp only; omega,by simp only [List.length_append,List.length_cons,List.length_nil]; omega,hvo2,f - 1,by simp only; omega,(hst y hlt' hy).symm⟩ (by simp only; omega) qF ?_
   exact aM (bK (nD _ _ _ _)) (aD (fun F hF=>.tail _ (.tail _ hF)))
  ·have:=hno (.inr hy)
   simp only [Prod.mk.injEq] at this
   obtain ⟨rfl,rfl,rfl⟩:=this
   exact fin (kk q vo) (Seals.L 3 rfl h4)
 ·have:=l7 L en ep f at' nx R (.inl qN)
  rw [h6] at this
  simp only [Prod.mk.injEq] at this
  obtain ⟨rfl,rfl,rfl⟩:=this
  exact fin (kk q vo) (Seals.L 3 rfl h4)
def appW (at' en:Nat) (b:List Nat):List (Nat×List Nat):=[]++chW (bV b.length) (at'+1) b++(if at'+1+bV b.length<en then [(at'+1+bV b.length,k6 [])] else [])
def vW (L:List (Nat×List Nat)) (at' en ep nx:Nat) (b:List Nat):List (Nat×List Nat):=fP (fP L (appW at' en b)) ([]++chW (bV (gA uW ep nx b).length) at' (gA uW ep nx b))
theorem appW_ok {n at' en:Nat} {b:List Nat} (h:at'+1+bV b.length≤en) (hn:en≤n):∀ x∈appW at' en b,x.1<n∧x.2.length=512:=fun x hx=>by
 unfold appW at hx
 rcases List.mem_append.1 hx with hx | hx
 ·rw [List.nil_append] at hx
  exact sF qN x hx
 ·split at hx
  ·rw [List.mem_singleton.1 hx]
   exact ⟨by simp only; omega,s9 qP⟩
  ·cases hx
theorem appW_len (at' en:Nat) (b:List Nat):(appW at' en b).length≤bV b.length+1:=by
 unfold appW
 rw [List.nil_append,List.length_append,lB]
 split <;> simp
theorem oH (ep nx:Nat) (b:List Nat):bV (gA uW ep nx b).length=1:=by rw [jL]; rfl
theorem appL_ok {n at' en ep nx:Nat} {L:List (Nat×List Nat)} {b:List Nat} (hL:DkOk n L) (h:at'+1+bV b.length≤en) (hn:en≤n):DkOk n (vW L at' en ep nx b)∧(vW L at' en ep nx b).length≤L.length+bV b.length+2:=by
 obtain ⟨g1,g2⟩:=iJ _ _ hL (appW_ok h hn)
 obtain ⟨g3,g4⟩:=iJ ([]++chW (bV (gA uW ep nx b).length) at' (gA uW ep nx b)) _ g1 fun x hx=>by
  rw [List.nil_append] at hx
  exact sF (by rw [oH]; omega) x hx
 refine ⟨g3,?_⟩
 have:=appW_len at' en b
 have e1:([]++chW (bV (gA uW ep nx b).length) at' (gA uW ep nx b)).length=1:=by rw [List.nil_append,lB,oH]
 rw [e1] at g4
 unfold vW
 omega
set_option maxHeartbeats 2000000 in
theorem wAppend {fs:List bA} {K:cE} (q r n rm at' en ep nx:Nat) (L:List (Nat×List Nat)) (u:Value) (rest:List Own) (b:List Nat) (hroom:at'+1+bV b.length≤en) (hen:en≤n) (hn:n≤4096) (hL:DkOk n L) (hlen:L.length≤40000) (hu:(u,BD b)∈fs) (hbb:Byt b) (hb:b.length≤2048) (hep:ep<9223372036854775808) (hnx:nx≤100000)
  (kk:K (.int .i64 0) (dkC r n rm (vW L at' en ep nx b) (jrO q r (at'+1+bV b.length) en ep (nx+1)::rest)) fs) :
  CallK Tryz.prog false (.func (.func 76) #[] #[]) [cN q,u] (dkC r n rm L (jrO q r at' en ep nx::rest)) fs K:=by
 have hWok:=appW_ok (n:=n) hroom hen
 have hWl:=appW_len at' en b
 have hsb:bV b.length≤4:=by unfold bV; omega
 have hH:=oH ep nx b
 obtain ⟨hPo,hPl⟩:=iJ _ _ hL hWok
 have hW1:(chW (bV b.length) (at'+1) b).length=bV b.length:=lB _ _ _
 refine bX (args:=[cN q,u]) (caps:=[]) Tryz.func76 qK rfl qK (Nat.le_of_ble_eq_true rfl) ?_
 refine aS (v:=u) (n:=b.length) (size:=1) hu fun _=>?_
 refine aL rfl qN ?_
 refine aF 2 rfl (aU q) ?_
 refine aB (u:=.bool false) (e:=fun _=>jrD r at' en ep nx) 2 rfl (aC (aC (aC (aC (aC (aG _)))))) ?_
 refine bC [0,1,4,5,6,7,8,9,10,11,12,2,3,13,14] [0,1,2,3,4,5,6,7,8,9,10,11,12,13,14] qK qK ?_
 refine aS (v:=u) (n:=b.length) (size:=1) hu fun _=>?_
 refine aF 2 rfl (aU q) ?_
 refine aB (u:=.int .i64 (en:Nat)) (e:=fun _=>jrD r at' en ep nx) 2 rfl (aC (aC (aJ (aG _)))) ?_
 refine aF 2 rfl (aU q) ?_
 refine aB (u:=.int .i64 (at':Nat)) (e:=fun _=>jrD r at' en ep nx) 2 rfl (aC (aJ (aG _))) ?_
 refine ar rfl qI ?_
 refine cH (pF b.length qN) ?_
 refine ar rfl qI ?_
 refine aL rfl qN ?_
 refine eT [0,1,2,3,4,5,6,7,8,9,10,11] qK ?_
 refine cX [] [] [] [10] [0,1,2,3,4,5,6,7,8,9,10,11] qK qK qK ?_
 refine aF 2 rfl (aU q) ?_
 refine aB (u:=cN r) (e:=fun _=>jrD r at' en ep nx) 2 rfl (aJ (aG _)) ?_
 refine aF 2 rfl (aU q) ?_
 refine aB (u:=.int .i64 (at':Nat)) (e:=fun _=>jrD r at' en ep nx) 2 rfl (aC (aJ (aG _))) ?_
 refine ar rfl qI ?_
 refine cM (aM (dG _ _ 513 fun i=>mM (([]:List (Nat×List Nat)).getD i (0,z512))) (bK (nD _ _ _ _))) ?_
 refine wPut r n (.map (some rm)) _ u L [] _ (at'+1) b qN hn qN (by repeat (first | exact hu | apply List.Mem.tail)) eP (Nat.zero_le _) fun l1 hl1=>?_
 refine bC [0,1,2,3,4,5,6,7,8,9] [0,1,2,3,4,5,6,7,8,9] qK qK ?_
 refine aF 3 rfl (aU q) ?_
 refine aB (u:=.int .i64 (at':Nat)) (e:=fun _=>jrD r at' en ep nx) 3 rfl (aC (aJ (aG _))) ?_
 refine ar rfl qI ?_
 refine aS (v:=u) (n:=b.length) (size:=1) (by repeat (first | exact hu | apply List.Mem.tail)) fun _=>?_
 refine cH (pF b.length qN) ?_
 refine ar rfl qI ?_
 refine bG rfl qN ?_
 refine aF 3 rfl (aU q) ?_
 refine aB (u:=.int .i64 (en:Nat)) (e:=fun _=>jrD r at' en ep nx) 3 rfl (aC (aC (aJ (aG _)))) ?_
 refine aO _ rfl (fun hlt=>?_) (fun hlt=>?_)
 ·have hW:appW at' en b=[]++chW (bV b.length) (at'+1) b++[(at'+1+bV b.length,k6 [])]:=by unfold appW; rw [if_pos qN]
  refine aF 3 rfl (aU q) ?_
  refine aB (u:=cN r) (e:=fun _=>jrD r at' en ep nx) 3 rfl (aJ (aG _)) ?_
  refine cM (Seals.add (d:=BD []) (Knw.nil 1 _)) ?_
  refine dWrite r n (.map (some rm)) l1 (.slice none 0 0) L _ _ (at'+1+bV b.length) qN hn [] qP (.head _) hl1 (by rw [List.nil_append,hW1]; omega) fun l2 hl=>?_
  refine bG rfl qN ?_
  refine aF 3 rfl (aU q) ?_
  refine aB (u:=cN r) (e:=fun _=>jrD r at' en ep nx) 3 rfl (aJ (aG _)) ?_
  refine tK r n rm _ L ([]++chW (bV b.length) (at'+1) b++[(at'+1+bV b.length,k6 [])]) _ hn hL (fun x hx=>hWok x (by rw [hW]; exact hx)) hl (by rw [← hW]; omega) ?_
  rw [← hW]
  refine bG rfl qN ?_
  refine eT [0,1,2,3,4,5,6,7,8,9,10,11,12,13,14,15,16,17,18,19] qK ?_
  refine cX [] [] [] [18] [0,1,2,3,4,5,6,7,8,9,10,11,12,13,14,15,16,17,18,19] qK qK qK ?_
  refine aF 3 rfl (aU q) ?_
  refine aB (u:=cN r) (e:=fun _=>jrD r at' en ep nx) 3 rfl (aJ (aG _)) ?_
  refine aF 3 rfl (aU q) ?_
  refine aB (u:=.int .i64 (at':Nat)) (e:=fun _=>jrD r at' en ep nx) 3 rfl (aC (aJ (aG _))) ?_
  refine aF 3 rfl (aU q) ?_
  refine aB (u:=.int .i64 (ep:Nat)) (e:=fun _=>jrD r at' en ep nx) 3 rfl (aC (aC (aC (aJ (aG _))))) ?_
  refine aF 3 rfl (aU q) ?_
  refine aB (u:=.int .i64 (nx:Nat)) (e:=fun _=>jrD r at' en ep nx) 3 rfl (aC (aC (aC (aC (aJ (aG _)))))) ?_
  refine bN (wHead u uW ep nx b tL qE hbb qN hep qN) (aT _ _) (aX (by repeat (first | exact hu | apply List.Mem.tail)) (bP _)) ?_
  rintro h1 _ _ ⟨rfl,rfl⟩
  refine tR r n rm _ h1 _ [] _ at' (gA uW ep nx b) (by rw [hH]; omega) hn (by rw [jL]; show 4+32≤_; omega) (.head _) eP (Nat.zero_le _) hPo (fun x hx=>by cases hx) qN ?_
  refine aL rfl qN ?_
  refine aF 3 rfl (aU q) ?_
  refine cP (e:=fun _=>jrD r at' en ep nx) 3 rfl (aU q) (Rep.rk (Rep.rk (Rep.rk (Rep.rk (Rep.rk (cD (n:=.one (.bool false)) rfl) rfl) rfl) rfl) rfl) rfl) (aP rfl) ?_
  refine aF 3 rfl (aU q) ?_
  refine aB (u:=.bool false) (e:=fun _=>jrD r at' en ep nx) 3 rfl (aC (aC (aC (aC (aC (aG _)))))) ?_
  refine aS (v:=u) (n:=b.length) (size:=1) (by repeat (first | exact hu | apply List.Mem.tail)) fun _=>?_
  refine cM (bK (List.perm_middle (l₁:=[_,_,_]))) ?_
  refine wGoes q r at' en ep nx _ b.length qN qN qN ?_
  refine fin kk ?_
  refine aM (bK (List.perm_middle (l₁:=[_,_,_]) (a:=jrO q r (at'+1+bV b.length) en ep (nx+1))).symm) (aM (aV 2 _ _) (aD qD))
 ·have hW:appW at' en b=[]++chW (bV b.length) (at'+1) b:=by unfold appW; rw [if_neg qN,List.append_nil]
  have hl:=hl1
  refine bG rfl qN ?_
  refine aF 3 rfl (aU q) ?_
  refine aB (u:=cN r) (e:=fun _=>jrD r at' en ep nx) 3 rfl (aJ (aG _)) ?_
  refine tK r n rm _ L ([]++chW (bV b.length) (at'+1) b) _ hn hL (fun x hx=>hWok x (by rw [hW]; exact hx)) hl (by rw [← hW]; omega) ?_
  rw [← hW]
  refine bG rfl qN ?_
  refine eT [0,1,2,3,4,5,6,7,8,9,10,11,12,13,14,15,16,17,18,19] qK ?_
  refine cX [] [] [] [18] [0,1,2,3,4,5,6,7,8,9,10,11,12,13,14,15,16,17,18,19] qK qK qK ?_
  refine aF 3 rfl (aU q) ?_
  refine aB (u:=cN r) (e:=fun _=>jrD r at' en ep nx) 3 rfl (aJ (aG _)) ?_
  refine aF 3 rfl (aU q) ?_
  refine aB (u:=.int .i64 (at':Nat)) (e:=fun _=>jrD r at' en ep nx) 3 rfl (aC (aJ (aG _))) ?_
  refine aF 3 rfl (aU q) ?_
  refine aB (u:=.int .i64 (ep:Nat)) (e:=fun _=>jrD r at' en ep nx) 3 rfl (aC (aC (aC (aJ (aG _))))) ?_
  refine aF 3 rfl (aU q) ?_
  refine aB (u:=.int .i64 (nx:Nat)) (e:=fun _=>jrD r at' en ep nx) 3 rfl (aC (aC (aC (aC (aJ (aG _)))))) ?_
  refine bN (wHead u uW ep nx b tL qE hbb qN hep qN) (aT _ _) (aX (by repeat (first | exact hu | apply List.Mem.tail)) (bP _)) ?_
  rintro h1 _ _ ⟨rfl,rfl⟩
  refine tR r n rm _ h1 _ [] _ at' (gA uW ep nx b) (by rw [hH]; omega) hn (by rw [jL]; show 4+32≤_; omega) (.head _) eP (Nat.zero_le _) hPo (fun x hx=>by cases hx) qN ?_
  refine aL rfl qN ?_
  refine aF 3 rfl (aU q) ?_
  refine cP (e:=fun _=>jrD r at' en ep nx) 3 rfl (aU q) (Rep.rk (Rep.rk (Rep.rk (Rep.rk (Rep.rk (cD (n:=.one (.bool false)) rfl) rfl) rfl) rfl) rfl) rfl) (aP rfl) ?_
  refine aF 3 rfl (aU q) ?_
  refine aB (u:=.bool false) (e:=fun _=>jrD r at' en ep nx) 3 rfl (aC (aC (aC (aC (aC (aG _)))))) ?_
  refine aS (v:=u) (n:=b.length) (size:=1) (by repeat (first | exact hu | apply List.Mem.tail)) fun _=>?_
  refine cM (bK (List.perm_middle (l₁:=[_,_,_]))) ?_
  refine wGoes q r at' en ep nx _ b.length qN qN qN ?_
  refine fin kk ?_
  refine aM (bK (List.perm_middle (l₁:=[_,_,_]) (a:=jrO q r (at'+1+bV b.length) en ep (nx+1))).symm) (aM (aV 2 _ _) (aD qD))
theorem info_u8z:(Tryz.prog.info? 5).map (fun i=>(i.zero,i.size,i.bytes))=some (some (.int .u8 0),1,1):=by kernel_rfl
instance tzU8:iD Tryz.prog 5 (by8 0):=mQ info_u8z fun _ _=>⟨rfl,rfl⟩
theorem info_boolz:(Tryz.prog.info? 4).map (fun i=>(i.zero,i.size,i.bytes))=some (some (.bool false),1,1):=by kernel_rfl
instance tzBoo:iD Tryz.prog 4 (.one (.bool false)):=mQ info_boolz fun _ _=>⟨rfl,rfl⟩
theorem make_B {P:Program} {t e:TypeId} [ht:TSl P t e 1] [he:TEl P e 1 1] [hz:iD P e (by8 0)] {n:Nat} {k1 k2:IntKind} {x y:Int} {os:List Own} {fs:List bA} {K:cE} (hx:x=(n:Int)) (hy:y=(n:Int)) (hn:n≤100000)
  (k:∀ v,eQ v→K v (kN v (List.replicate n 0)::os) fs):MakeK P t (.int k1 x) (.int k2 y) os fs K:=by
 have h1:=uQ (P:=P) (t:=t) (os:=os) (fs:=fs) (k1:=k1) (k2:=k2) (x:=x) (y:=y) (d:=by8 0) (K:=fun u os' fs'=>∃ os'' fs'',Seals os' fs' os'' fs''∧K u os'' fs'') n hx hy qN qN fun v hv=>⟨_,_,Seals.own_cong (hsz:=.inl qE) (os:=bL v 1 n (fun _=>by8 0)::os) (fs:=fs) 0 (n':=(List.replicate n 0).length) (fun i=>by8 ((List.replicate n 0).getD i 0)) rfl qP (fun i hi=>by
  simp [gE,hi]),k v hv⟩
 exact ⟨Grw.sealed h1.out⟩
theorem wLie {fs:List bA} {K:cE} (r n rm:Nat) (L:List (Nat×List Nat)) (rest:List Own) (h4:4≤n) (hn:n≤4096)
  (kk:K (.bool true) (dkC r n rm L rest) fs) :
  CallK Tryz.prog false (.func (.func 81) #[] #[]) [cN r,.int .i64 0,.int .i64 2] (dkC r n rm L rest) fs K:=by
 refine bX (args:=[cN r,.int .i64 0,.int .i64 2]) (caps:=[]) Tryz.func81 qK rfl qK (Nat.le_of_ble_eq_true rfl) ?_
 refine bG rfl qN ?_
 refine bG rfl qN ?_
 refine dSize r n _ _ _ ?_
 refine bG rfl qN ?_
 refine dSize r n _ _ _ ?_
 refine ar rfl qI ?_
 refine ar rfl qI ?_
 refine bG rfl qN ?_
 exact fin kk (aT _ _)
def savA (L:List (Nat×List Nat)):List (Nat×List Nat):=fP L ([]++chW (bV [0].length) 2 [0])
def savB (L:List (Nat×List Nat)) (b:List Nat):List (Nat×List Nat):=fP L ([]++chW (bV b.length) 3 b)
def savC (L:List (Nat×List Nat)) (b:List Nat):List (Nat×List Nat):=fP L ([]++chW (bV (gA t8 1 0 b).length) 2 (gA t8 1 0 b))
def pL (L:List (Nat×List Nat)) (b:List Nat):List (Nat×List Nat):=savC (savB (savA L) b) b
theorem j9 (b:List Nat):bV (gA t8 1 0 b).length=1:=by rw [jL]; rfl
theorem savA_ok {n:Nat} {L:List (Nat×List Nat)} (hL:DkOk n L) (hn:4≤n):DkOk n (savA L)∧(savA L).length≤L.length+1 :=
 iJ _ _ hL fun x hx=>sF (at':=2) (k:=1) (b:=[0]) qN x hx
theorem savB_ok {n:Nat} {L:List (Nat×List Nat)} {b:List Nat} (hL:DkOk n L) (hn:4≤n) (hb:bV b.length≤1):DkOk n (savB L b)∧(savB L b).length≤L.length+1:=by
 have h:=iJ (n:=n) (chW (bV b.length) 3 b) L hL fun x hx=>sF qN x hx
 rw [lB] at h
 exact ⟨h.1,Nat.le_trans h.2 qN⟩
theorem savC_ok {n:Nat} {L:List (Nat×List Nat)} {b:List Nat} (hL:DkOk n L) (hn:4≤n):DkOk n (savC L b)∧(savC L b).length≤L.length+1:=by
 have h:=iJ (n:=n) (chW (bV (gA t8 1 0 b).length) 2 (gA t8 1 0 b)) L hL fun x hx=>sF (by rw [j9]; omega) x hx
 rw [lB,j9] at h
 refine ⟨?_,?_⟩
 ·unfold savC; rw [j9]; exact h.1
 ·unfold savC; rw [j9]; exact h.2
theorem wSave {fs:List bA} {K:cE} (r n rm:Nat) (L:List (Nat×List Nat)) (u:Value) (rest:List Own) (b:List Nat) (hn:n≤4096) (h4:4≤n) (hL:DkOk n L) (hlen:L.length≤40000) (hu:(u,BD b)∈fs) (hbb:Byt b) (hb:b.length≤512)
  (kk:K (.int .i64 0) (dkC r n rm (pL L b) rest) fs) :
  CallK Tryz.prog false (.func (.func 68) #[] #[]) [cN r,.int .i64 0,.int .i64 2,.int .i64 1,u] (dkC r n rm L rest) fs K:=by
 have hsb:bV b.length≤1:=by unfold bV; omega
 have hH:=j9 b
 obtain ⟨a1,a2⟩:=savA_ok hL h4
 obtain ⟨b1,b2⟩:=savB_ok (b:=b) a1 h4 hsb
 refine bX (args:=[cN r,.int .i64 0,.int .i64 2,.int .i64 1,u]) (caps:=[]) Tryz.func68 qK rfl qK (Nat.le_of_ble_eq_true rfl) ?_
 refine wLie r n rm L rest h4 hn ?_
 refine aL rfl qN ?_
 refine aL rfl qN ?_
 refine aS (v:=u) (n:=b.length) (size:=1) hu fun _=>?_
 refine cH (pF b.length qN) ?_
 refine ar rfl qI ?_
 refine aL rfl qN ?_
 refine vX 1 1 2 rfl rfl rfl qN qN ?_
 refine ar rfl qI ?_
 refine ar rfl qI ?_
 refine make_B (n:=1) rfl rfl qN fun v1 hv1=>?_
 refine cM (aM (Seals.B (l:=[0]) 0 rfl hv1) (aM (dG _ _ 513 fun i=>mM (([]:List (Nat×List Nat)).getD i (0,z512))) (bK (nD _ _ _ _)))) ?_
 refine tR r n rm _ v1 L [] _ 2 [0] (by show 2+1≤n; omega) hn qE (.head _) eP (Nat.zero_le _) hL (fun x hx=>by cases hx) qN ?_
 refine bG rfl qN ?_
 refine ar rfl qI ?_
 refine tR r n rm _ u (savA L) [] _ 3 b qN hn qN (.tail _ hu) eP (Nat.zero_le _) a1 (fun x hx=>by cases hx) qN ?_
 refine bG rfl qN ?_
 refine bN (wHead u t8 1 0 b byt_slot qE hbb qN qN qN) (aT _ _) (aX (.tail _ hu) (bP _)) ?_
 rintro h1 _ _ ⟨rfl,rfl⟩
 refine tR r n rm _ h1 (savB (savA L) b) [] _ 2 (gA t8 1 0 b) (by rw [hH]; omega) hn (by rw [jL]; show 4+32≤_; omega) (.head _) eP (Nat.zero_le _) b1 (fun x hx=>by cases hx) qN ?_
 exact fin kk (aM (aV 2 _ _) (aD (fun F hF=>.tail _ (.tail _ hF))))
def genV (L:List (Nat×List Nat)) (i:Nat):Nat:=leV (((lkN z512 L i).drop 4).take 8)
theorem wLoad0 {fs:List bA} {K:cE} (r n rm:Nat) (L:List (Nat×List Nat)) (rest:List Own) (hn:n≤4096) (h4:4≤n) (hL:DkOk n L) (hB:DkB L) (h0:genV L 0=0) (h2:genV L 2=0)
  (kk:K (.tuple #[.int .i64 0,.slice none 0 0,.int .i64 0]) (dkC r n rm L rest) fs) :
  CallK Tryz.prog false (.func (.func 50) #[] #[]) [cN r,.int .i64 0,.int .i64 2] (dkC r n rm L rest) fs K:=by
 refine bX (args:=[cN r,.int .i64 0,.int .i64 2]) (caps:=[]) Tryz.func50 qK rfl qK (Nat.le_of_ble_eq_true rfl) ?_
 refine wLie r n rm L rest h4 hn ?_
 refine dDown' r n _ _ _ ?_
 refine bD (X:=Nat) (fun k=>([(0,cN r),(1,.int .i64 0),(2,.int .i64 2),(9,.int .i64 0),(10,.slice none 0 0),(27,.int .i64 (k:Nat))],dkC r n rm L rest,fs)) (fun k=>k≤2) (fun k=>2 - k) rfl ?_ ?_
 ·exact bB 0 (Nat.zero_le _) trivial qF (aT _ _)
 intro k hk
 replace hk:k≤2:=hk
 refine aO _ rfl (fun hlt=>?_) (fun hlt=>?_)
 ·have hg:genV L (2*k)=0:=by
   obtain rfl | rfl:k=0∨k=1:=by omega
   ·exact h0
   ·exact h2
  refine ar rfl qI ?_
  refine ar rfl qI ?_
  rw [show (0:Int)+2*(k:Nat)=((2*k:Nat):Int) by omega]
  refine dRead r n rm L rest (2*k) qN hn hL fun x=>?_
  have hl:=hL.len (2*k)
  have hb:=hB (2*k)
  unfold genV at hg
  generalize lkN z512 L (2*k)=s at *
  refine eV (v:=x) (l:=s) (.head _) 4 s.length _ _ (kl:=.i64) (kh:=.i64) (.inr rfl) (.inl ⟨rfl,rfl⟩) qN (Nat.le_refl _) fun s1=>?_
  rw [List.take_length]
  refine bN (wRead s1 (s.drop 4) (fun c hc=>hb c (List.mem_of_mem_drop hc)) (by rw [List.length_drop]; omega) (by rw [List.length_drop]; omega)) (aT _ _) (aX (.head _) (bP _)) ?_
  rintro _ _ _ ⟨rfl,rfl,rfl⟩
  rw [hg]
  refine bG rfl qE ?_
  refine ar rfl qI ?_
  refine bB (k+1) qO qO qF (aD (fun F hF=>.tail _ (.tail _ hF)))
 ·exact fin kk (aT _ _)
theorem wLoad1 {fs:List bA} {K:cE} (r n rm:Nat) (L:List (Nat×List Nat)) (rest:List Own) (b:List Nat) (hn:n≤4096) (h4:4≤n) (hL:DkOk n L) (hB:DkB L) (h0:genV L 0=0) (h2:genV L 2=1) (hb:gN L 2 t8 1 0 512=some b)
  (kk:∀ x,K (.tuple #[.int .i64 1,x,.int .i64 0]) (dkC r n rm L rest) ((x,BD b)::fs)) :
  CallK Tryz.prog false (.func (.func 50) #[] #[]) [cN r,.int .i64 0,.int .i64 2] (dkC r n rm L rest) fs K:=by
 refine bX (args:=[cN r,.int .i64 0,.int .i64 2]) (caps:=[]) Tryz.func50 qK rfl qK (Nat.le_of_ble_eq_true rfl) ?_
 refine wLie r n rm L rest h4 hn ?_
 refine dDown' r n _ _ _ ?_
 refine bD (X:=Nat×Value) (fun x=>([(0,cN r),(1,.int .i64 0),(2,.int .i64 2),(9,.int .i64 (if x.1≤1 then 0 else 1)),(10,x.2),(27,.int .i64 (x.1:Nat))],dkC r n rm L rest,if x.1≤1 then fs else (x.2,BD b)::fs)) (fun x=>x.1≤2) (fun x=>2 - x.1) rfl ?_ ?_
 ·exact bB (0,.slice none 0 0) (Nat.zero_le _) trivial qF (aT _ _)
 rintro ⟨k,v⟩ hk
 simp only at hk ⊢
 obtain rfl | rfl | rfl:k=0∨k=1∨k=2:=by omega
 ·refine bG rfl qN ?_
  refine ar rfl qI ?_
  refine ar rfl qI ?_
  refine dRead r n rm L rest 0 qN hn hL fun x=>?_
  have hl:=hL.len 0
  have hbs:=hB 0
  unfold genV at h0
  generalize lkN z512 L 0=s at *
  refine eV (v:=x) (l:=s) (.head _) 4 s.length _ _ (kl:=.i64) (kh:=.i64) (.inr rfl) (.inl ⟨rfl,rfl⟩) qN (Nat.le_refl _) fun s1=>?_
  rw [List.take_length]
  refine bN (wRead s1 (s.drop 4) (fun c hc=>hbs c (List.mem_of_mem_drop hc)) (by rw [List.length_drop]; omega) (by rw [List.length_drop]; omega)) (aT _ _) (aX (.head _) (bP _)) ?_
  rintro _ _ _ ⟨rfl,rfl,rfl⟩
  rw [h0]
  refine bG rfl qE ?_
  refine ar rfl qI ?_
  refine bB (1,v) (by show 1≤2; decide) (by show 2 - 1<2 - 0; decide) qF (aD (fun F hF=>.tail _ (.tail _ hF)))
 ·refine bG rfl qN ?_
  refine ar rfl qI ?_
  refine ar rfl qI ?_
  refine dRead r n rm L rest 2 qN hn hL fun x=>?_
  have hl:=hL.len 2
  have hbs:=hB 2
  unfold genV at h2
  refine eV (v:=x) (l:=lkN z512 L 2) (.head _) 4 (lkN z512 L 2).length _ _ (kl:=.i64) (kh:=.i64) (.inr rfl) (.inl ⟨rfl,rfl⟩) qN (Nat.le_refl _) fun s1=>?_
  rw [List.take_length]
  refine bN (wRead s1 ((lkN z512 L 2).drop 4) (fun c hc=>hbs c (List.mem_of_mem_drop hc)) (by rw [List.length_drop]; omega) (by rw [List.length_drop]; omega)) (aT _ _) (aX (.head _) (bP _)) ?_
  rintro _ _ _ ⟨rfl,rfl,rfl⟩
  rw [h2]
  refine aL rfl qE ?_
  refine aL rfl qE ?_
  refine iR 1 1 2 rfl rfl rfl qN qN ?_
  refine bJ ⟨_,Tryz.underlying22⟩ Tryz.underlying3 1 (bT ⟨by omega,by omega⟩) ?_
  refine aL rfl qN ?_
  refine bJ ⟨_,Tryz.underlying22⟩ Tryz.underlying3 1 (bT ⟨by omega,by omega⟩) ?_
  refine aL rfl (by show ¬ (1:Int)≤0; decide) ?_
  refine bJ ⟨_,Tryz.underlying22⟩ Tryz.underlying3 1 (bT ⟨by omega,by omega⟩) ?_
  refine ar rfl qI ?_
  refine ar rfl qI ?_
  refine wBehind r n rm L rest 2 t8 1 0 512 (by show 2+1+1≤n; omega) hn hL hB qN byt_slot rfl qN qN (fun x y hy=>?_) (fun x hy=>?_)
  ·rw [hb] at hy
   obtain rfl:=Option.some.inj hy
   refine bJ ⟨_,Tryz.underlying22⟩ Tryz.underlying3 1 (bT ⟨by omega,by omega⟩) ?_
   refine ar rfl qI ?_
   refine bB (2,x) (Nat.le_refl _) (by show 2 - 2<2 - 1; decide) qF (aD (fun F hF=>?_))
   rcases List.mem_cons.1 hF with rfl | hF
   ·exact .head _
   ·exact .tail _ (.tail _ (.tail _ hF))
  ·rw [hb] at hy; cases hy
 ·refine aL rfl qN ?_
  exact fin (kk v) (aT _ _)
theorem oth_cap {P:Program} {d:Bool} {f:Fr} {ty t e:TypeId} {size:Nat} {c:Call} {x:Operand} {a:Option Addr} {n cp:Nat} {os:List Own} {fs:List bA} {K:cE} [ht:TSl P t e size] (hc:c.callee=.builtin .cap) (hx:c.args = #[x]) (hv:ev f x=some (.slice a n cp)) (hts:c.argTypes = #[t])
  (k:K (.int .i64 (cp:Nat)) os fs):OthK P d f ty (.call c) os fs K:=by
 have hrun:∀ w,(Builtin.cap_ #[t] ty #[.slice a n cp]).run P w=.ok (.int .i64 (cp:Nat)) w:=fun w=>by
  simp [Builtin.cap_,run_underlying ht.und,goInt]
 have hdet:Det P (val (Builtin.cap_ #[t] ty #[.slice a n cp])) os fs K:=fun G w hw=>⟨_,fs,fun w' _=>dH (hrun w'),k,hw⟩
 refine ⟨val (Builtin.cap_ #[t] ty #[.slice a n cp]),fun e o ho hty hev=>?_,hdet.grw.dyn,fun _=>hdet.grw,fun _=>hdet⟩
 have k1:=hev x _ (by simp [Op.operands,Call.operands,hc,hx]) hv
 unfold execOp
 simp only [ho,resolve,hc,hx,hts,hty]
 simp [k1]
 rfl
theorem slice_nil {P:Program} {t e:TypeId} {size:Nat} {kh:IntKind} {os:List Own} {fs:List bA} {K:cE} [ht:TSl P t e size] (k:K (.slice none 0 0) os fs):oU P t (.slice none 0 0) none (some (.int kh 0)) none os fs K:=by
 have hrun:∀ w',(Instr.sliceAt t (.slice none 0 0) none (some (.int kh 0)) none).run P w'=.ok (.slice none 0 0) w':=fun w'=>by
  simp [Instr.sliceAt,run_underlying ht.und,Instr.slice,Instr.sliceBounds,Instr.sliceBound,asIntOf,dB ht.size]
 exact ⟨fun G w hw=>⟨_,fs,fun w' _=>dH (hrun w'),k,hw⟩⟩
theorem slice_zero {P:Program} {t e:TypeId} {size n c r:Nat} {kh:IntKind} {os:List Own} {fs:List bA} {K:cE} [ht:TSl P t e size] (hc:0<c) (k:K (.slice (some ⟨r,0,none⟩) 0 c) os fs):oU P t (.slice (some ⟨r,0,none⟩) n c) none (some (.int kh 0)) none os fs K:=by
 have hrun:∀ w',(Instr.sliceAt t (.slice (some ⟨r,0,none⟩) n c) none (some (.int kh 0)) none).run P w'=.ok (.slice (some ⟨r,0,none⟩) 0 c) w':=fun w'=>by
  have h0:c≠0:=by omega
  simp [Instr.sliceAt,run_underlying ht.und,Instr.slice,Instr.sliceBounds,Instr.sliceBound,asIntOf,dB ht.size,h0,eI]
 exact ⟨fun G w hw=>⟨_,fs,fun w' _=>dH (hrun w'),k,hw⟩⟩
theorem app_room {P:Program} {t e u ty:TypeId} {n:Nat} {os:List Own} {fs:List bA} {K:cE} [ht:TSl P t e 1] [he:TEl P e 1 1] (hu:P.underlying u=some (.int .i64)) (hn:0<n) (hn2:n≤1000000)
  (k:∀ r c,0<c→K (.slice (some ⟨r,0,none⟩) n c) (kN (.slice (some ⟨r,0,none⟩) 0 c) []::os) fs):AppendK P [t,u] ty (.slice none 0 0) (.int .i64 (n:Nat)) os fs K:=by
 refine ⟨fun G w hw=>?_⟩
 obtain ⟨i,z,h1,h2,h3,h4,h5,h6⟩:=he.info
 have hge:=grownCap_ge w n 0 e
 have hcm:grownCap w n 0 e≤maxLen:=grownCap_le_maxLen w n 0 e (by unfold maxLen; omega)
 have hrun:(Builtin.append_ [t,u].toArray ty #[.slice none 0 0,.int .i64 (n:Nat)]).run P w=.ok (.slice (some ⟨w.heap.size,0,none⟩) n (grownCap w n 0 e)) (w.drew.alloc (.cells (Builtin.zeroCells z.cells n++Builtin.zeroCells z.cells (grownCap w n 0 e - n)) e)):=by
  have e0:n≠0:=by omega
  have e1:¬ (9223372036854775807<(n:Int)):=by omega
  have e2:¬ (281474976710656<Builtin.nextslicecap n 0):=by rw [nextslicecap_zero hn]; omega
  have e3:¬ ((n:Int)<0):=by omega
  have e4:¬ (281474976710656<(n:Int)):=by omega
  have e5:IntKind.i64.wrap (n:Int)=(n:Int):=bT ⟨by omega,by omega⟩
  simp [Builtin.append_,run_underlying ht.und,run_underlying hu,sizeOf,typeInfo,zeroValue,h1,h2,h3,h4,Builtin.lenOf,e0,e1,e2,e3,e4,e5,asInt,asIntOf,Question.forced,run_firstCells_none,newRow,grownCap]
 rw [gO hrun]
 generalize grownCap w n 0 e=gc at *
 have hbel:Below w.heap.size w (w.drew.alloc (.cells (Builtin.zeroCells z.cells n++Builtin.zeroCells z.cells (gc - n)) e)):=(Below.refl _ _).drew.alloc (Nat.le_refl _) _
 refine ⟨_,fs,k _ _ qN,hw.alloc _ (.cells (Builtin.zeroCells z.cells n++Builtin.zeroCells z.cells (gc - n)) e) _ hbel rfl (.inr rfl) (.inr (.inl ⟨w.heap.size,gc,rfl,hw.size,Nat.zero_le _,hcm,_,e,⟨_,heap_alloc_new w.drew _,.inl rfl⟩,?_,fun i hi=>by simp [kN,kU,bL] at hi⟩))⟩
 simp only [Array.size_append,size_zeroCells,h5,kN,kU,bL]
 omega
theorem Holds.join1 {G:Ctx} {os:List Own} {fs:List bA} {w w':World} (h:Holds G os fs w) (o:Own) (hb:Below w.heap.size w w')
  (hm:o.m=1) (hv:∀ b,lR (o.v 0)=some b→w.heap.size≤b) (hown:OwnVal (Good G.A (o::os) w') G.B w' (o.v 0) o.size (o.n 0) (o.e 0)):Holds G (o::os) fs w':=by
 have hs:=hb.size
 have hge:∀ b,o.has b→w.heap.size≤b:=fun b ⟨i,hi,hvb⟩=>by
  have:i=0:=by omega
  subst this
  exact hv b hvb
 have hg:∀ b,Good G.A os w b→Good G.A (o::os) w' b:=fun b ⟨h1,h2,h3⟩=>⟨Nat.lt_of_lt_of_le h1 hs,h2,fun hh=>hh.elim (fun hh=>absurd (hge b hh) (Nat.not_le.2 h1)) h3⟩
 have ha:lF (Good G.A os w) w w':=fun b hb'=>hb.block b hb'.1
 refine ⟨h.lowS hs (fun b hb=>hb.elim (fun h=>.inr (hge b h)) .inl),Nat.le_trans h.size hs,h.below.trans (hb.mono h.size),⟨fun i j b hi hj _ _=>by omega,fun b hb1 hb2=>?_,h.apart⟩,fun x hx i hi=>?_,h.facts.mono ha hg,h.keptS hb fun b hb=>hb.elim (fun h=>.inr (hge b h)) .inl⟩
 ·exact absurd (h.owned_lt hb2).2 (Nat.not_lt.2 (hge b hb1))
 ·rcases List.mem_cons.1 hx with rfl | hx
  ·have:i=0:=by omega
   subst this
   exact hown
  ·exact (h.own x hx i hi).mono ha hg fun r hr=>hb.block r ((h.own x hx i hi).blk hr).2
theorem call_lendB {P:Program} {d:Bool} {g:FuncId} {args:List Value} {os os₁:List Own} {fs fs₁ cfs:List bA} {K:cE} {l:List Nat}
  (hm:aY P g args cfs (fun v os' fs'=>fs'=[]∧eQ v∧os'=[kN v l])) (hs:Seals os fs os₁ fs₁) (hsub:Sub cfs fs₁)
  (k:∀ v,eQ v→K v (kN v l::os) fs):CallK P d (.func (.func g) #[] #[]) args os fs K:=by
 have key:Grw P (do let x ← Deferred.ofValue (.func (.func g) #[] #[]) args.toArray; invoke x.target x.args) os fs K:=by
  intro G w hw0
  have hw:=hs G w hw0
  have hrun:(do let x ← Deferred.ofValue (.func (.func g) #[] #[]) args.toArray; invoke x.target x.args:Sem Next).run P w =
    .ok (.enter g args.toArray) w:=by
   simp only [Deferred.ofValue,pure_bind,invoke]
   simpa using hm.enter args.toArray w
  rw [hrun]
  refine Calls.mono (hm.calls (fun b=>G.A b∨eW os₁ b) w (fun b hb=>?_) ?_) ?_
  ·rcases hb with hb | hb
   ·exact (hw.low b hb).1
   ·exact (hw.owned_lt hb).2
  ·refine (hw.weaken_facts hsub).facts.mono (fun _ _=>rfl) fun b ⟨h1,h2,h3⟩=>⟨h1,fun h=>h.elim h2 h3⟩
  ·rintro e w' ⟨v,os',fs',rfl,⟨rfl,hv,rfl⟩,hh⟩
   refine ⟨v,rfl,hh.below,_,fs,k v hv,hw0.join1 (kN v l) hh.below rfl (fun b hb=>?_) ?_⟩
   ·exact ((hh.own _ (List.mem_singleton.2 rfl) 0 Nat.zero_lt_one).blk hb).1
   ·rcases hh.own _ (List.mem_singleton.2 rfl) 0 Nat.zero_lt_one with h | ⟨r,cap,h1,b1,b2,b3,cur,t,b4,b5,b6⟩ | ⟨r,h1,_⟩ | ⟨_,h2,_⟩
    ·exact .inl h
    ·refine .inr (.inl ⟨r,cap,h1,Nat.le_trans hw0.size b1,b2,b3,cur,t,b4,b5,fun i hi=>?_⟩)
     obtain ⟨cs,c1,c2⟩:=b6 i hi
     exact ⟨cs,c1,c2⟩
    ·obtain ⟨_,_,_,rfl⟩:=hv
     simp [kN,kU,bL] at h1
    ·simp [kN,kU,bL] at h2
 exact ⟨key.dyn,fun _=>key⟩
section
variable {P:Program} {t:TypeId} {x y:Operand} {os:List Own} {fs:List bA} {K:cE}
theorem shl_u8 {k':IntKind} {z s:Int} (a n:Nat) (hz:z=(a:Int)) (hs:s=(n:Int)) (hn:n≤8)
  (h1:K (.int .u8 ((a*2^n%256:Nat):Int)) os fs):pC P .shl t x y (.int .u8 z) (.int k' s) os fs K:=by
 subst hs hz
 refine ⟨dD _ (fun w=>?_) h1⟩
 have h0:¬ ((n:Int)<0):=by omega
 have hb:min n IntKind.u8.bits=n:=Nat.min_eq_left hn
 have h2:IntKind.u8.wrap ((a:Int)*2^n)=((a*2^n%256:Nat):Int):=by
  have:(a:Int)*2^n=((a*2^n:Nat):Int):=by simp
  rw [this]
  exact lT _
 simp [eqGuard,binOp,Op.shift,h0,hb,h2]
theorem or_u8 {z u:Int} (a b:Nat) (hz:z=(a:Int)) (hu:u=(b:Int)) (ha:a<256) (hb:b<256)
  (h1:K (.int .u8 ((a ||| b:Nat):Int)) os fs):pC P .or t x y (.int .u8 z) (.int .u8 u) os fs K:=by
 subst hz hu
 refine ⟨dD _ (fun w=>?_) h1⟩
 have hlt:a ||| b<2^8:=Nat.or_lt_two_pow ha hb
 have hb':(BitVec.ofInt 8 (a:Int) ||| BitVec.ofInt 8 (b:Int)).toNat=a ||| b:=by
  rw [BitVec.toNat_or]
  have e1:(BitVec.ofInt 8 (a:Int)).toNat=a:=by rw [BitVec.toNat_ofInt]; omega
  have e2:(BitVec.ofInt 8 (b:Int)).toNat=b:=by rw [BitVec.toNat_ofInt]; omega
  rw [e1,e2]
 have hd:∀ X Y:BitVec 8,(X ||| Y).toNat=a ||| b→IntKind.u8.wrap ((X ||| Y).toNat:Int)=((a ||| b:Nat):Int):=fun X Y h=>by
  rw [h,lT]; congr 1; omega
 simp only [eqGuard,binOp,Op.intBits,Sem.run_bind,Sem.run_pure,Result.andThen_ok,IntKind.bits,ne_eq,not_true,if_false]
 exact congrArg (fun n=>Result.ok (Value.int .u8 n) w) (hd _ _ hb')
theorem and_u8 (a:Nat) {z m:Int} (k p:Nat) (hz:z=(a:Int)) (hp:p=2^k) (hm:m=((p - 1:Nat):Int)) (ha:a<256) (hk:k≤7)
  (h1:K (.int .u8 ((a%p:Nat):Int)) os fs):pC P .and t x y (.int .u8 z) (.int .u8 m) os fs K:=by
 subst hz hm hp
 have hp:2^k≤2^7:=Nat.pow_le_pow_right qE hk
 have hlt:2^k - 1<256:=by omega
 refine ⟨dD _ (fun w=>?_) h1⟩
 have hb:(BitVec.ofInt 8 (a:Int) &&& BitVec.ofInt 8 ((2^k - 1:Nat):Int)).toNat=a%2^k:=by
  rw [BitVec.toNat_and]
  have e1:(BitVec.ofInt 8 (a:Int)).toNat=a:=by rw [BitVec.toNat_ofInt]; omega
  have e2:(BitVec.ofInt 8 ((2^k - 1:Nat):Int)).toNat=2^k - 1:=by
   generalize 2^k - 1=q at hlt
   rw [BitVec.toNat_ofInt]; omega
  rw [e1,e2,Nat.and_two_pow_sub_one_eq_mod]
 have hw:IntKind.u8.wrap ((a%2^k:Nat):Int)=((a%2^k:Nat):Int):=by
  have:a%2^k≤a:=Nat.mod_le _ _
  rw [lT]; congr 1; omega
 have hd:∀ X Y:BitVec 8,(X &&& Y).toNat=a%2^k→IntKind.u8.wrap ((X &&& Y).toNat:Int)=((a%2^k:Nat):Int):=fun X Y h=>by rw [h,hw]
 simp only [eqGuard,binOp,Op.intBits,Sem.run_bind,Sem.run_pure,Result.andThen_ok,IntKind.bits,ne_eq,not_true,if_false]
 exact congrArg (fun n=>Result.ok (Value.int .u8 n) w) (hd _ _ hb)
end
def boE (b:Bool):Dat:=.one (.bool b)
def TD (l:List Bool):Dat:=LD 1 boE false l
def qY (v:Value) (l:List Bool):Own:=kU 1 boE false v l
def setB (b:List Nat) (i:Nat):List Nat:=b.set (i/8) (b.getD (i/8) 0 ||| 1*2^(i%8)%256)
def o8 (l:List Bool):Nat→List Nat
 | 0=>List.replicate ((l.length+7)/8) 0
 | k+1=>if l.getD k false then setB (o8 l k) k else o8 l k
def oN (l:List Bool):List Nat:=o8 l l.length
theorem qQ (l:List Bool):∀ k,(o8 l k).length=(l.length+7)/8
 | 0=>by simp [o8]
 | k+1=>by
  unfold o8
  split
  ·rw [setB,List.length_set]; exact qQ l k
  ·exact qQ l k
theorem vP (l:List Bool):(oN l).length=(l.length+7)/8:=qQ l _
theorem vM (l:List Bool):∀ k,Byt (o8 l k)
 | 0=>fun x hx=>by rw [(List.mem_replicate.1 hx).2]; omega
 | k+1=>by
  have ih:=vM l k
  unfold o8
  split
  ·intro x hx
   rcases List.mem_or_eq_of_mem_set hx with h | h
   ·exact ih x h
   ·rw [h]
    have h1:(o8 l k).getD (k/8) 0<2^8:=by
     rw [gE]
     cases hq:(o8 l k)[k/8]? with
     | none=>simp
     | some y=>exact ih y (List.mem_of_getElem? hq)
    exact Nat.or_lt_two_pow h1 qN
  ·exact ih
theorem byt_bits (l:List Bool):Byt (oN l):=vM l _
theorem fBits (v:Value) (l:List Bool) (hl:l.length≤4000):aY Tryz.prog 75 [v] [(v,TD l)] (fun r os fs=>fs=[]∧eQ r∧os=[kN r (oN l)]):=by
 refine mV Tryz.func75 ?_
 refine aS (v:=v) (n:=l.length) (size:=1) qM fun _=>?_
 refine ar rfl qI ?_
 refine gH qN qN (by exact ⟨by omega,by omega⟩) ?_
 refine make_B (n:=(l.length+7)/8) qN qN qN fun v1 hv1=>?_
 refine aS (v:=v) (n:=l.length) (size:=1) qM fun _=>?_
 refine bD (X:=Nat) (fun i=>([(3,v1),(11,v),(12,.int .i64 (l.length:Nat)),(13,.int .i64 (i:Nat))],[kN v1 (o8 l i)],[(v,TD l)])) (fun i=>i≤l.length) (fun i=>l.length - i) rfl ?_ ?_
 ·exact bB 0 (Nat.zero_le _) trivial qF (aD qS)
 intro i hi
 replace hi:i≤l.length:=hi
 have hgl:=qQ l i
 have hgb:=vM l i
 refine aO _ rfl (fun hlt=>?_) (fun hlt=>?_)
 ·have hil:i<l.length:=by omega
  have hsu:o8 l (i+1)=if l.getD i false then setB (o8 l i) i else o8 l i:=rfl
  refine aZ (v:=v) (n:=l.length) (size:=1) (el:=fun i=>boE (l.getD i false)) qM i rfl hil fun a1=>?_
  generalize l.getD i false=b at *
  refine bF (u:=.bool b) qM ?_
  generalize o8 l i=B at *
  cases b with
  | true =>
   have h3:i/8<B.length:=by omega
   have hb8:B.getD (i/8) 0<256:=hgb _ (eZ 0 h3)
   refine bC [0,1,2,3,4,5,6,7,8,9,10] [0,1,2,3,4,5,6,7,8,9,10] qK qK ?_
   refine dJ i 3 8 rfl rfl rfl qE ?_
   refine eM 0 rfl hv1 (i/8) rfl h3 ?_
   refine gR (u:=.int .u8 (B.getD (i/8) 0:Nat)) 0 rfl (i/8) h3 rfl ?_
   refine vX i 3 8 rfl rfl rfl qN qN ?_
   refine shl_u8 1 (i%8) rfl rfl qN ?_
   refine or_u8 _ _ rfl rfl hb8 qN ?_
   refine eM 0 rfl hv1 (i/8) rfl h3 ?_
   refine t5 (f:=by8) (z:=0) 0 rfl (B.getD (i/8) 0 ||| 1*2^(i%8)%256) rfl qK (aP rfl) h3 ?_
   refine ar rfl qI ?_
   refine bB (i+1) qO qO qF ?_
   simp only [hsu,if_true]
   exact aD qS
  | false =>
   refine ar rfl qI ?_
   refine bB (i+1) qO qO qF ?_
   simp only [hsu]
   exact aD qS
 ·obtain rfl:i=l.length:=by omega
  exact fin ⟨rfl,hv1,rfl⟩ (aD qS)
def jR (b:List Nat) (n:Nat):List Bool:=(List.range n).map fun i=>decide (b.getD (i/8) 0/2^(i%8)%2=1)
theorem slice_ownB {P:Program} {t e:TypeId} {v:Value} {n:Nat} {d:Nat→Dat} {kl:IntKind} {lo:Nat} {os:List Own} {fs:List bA} {K:cE} [ht:TSl P t e 1] (pos:Nat) (h:bQ os pos=some (bL v 1 n d)) (hs:eQ v) (hlo:lo<n)
  (k:∀ r c,v=.slice (some ⟨r,0,none⟩) n c→K (.slice (some ⟨r,lo,none⟩) (n - lo) (c - lo)) os fs):oU P t v (some (.int kl lo)) none none os fs K:=by
 refine ⟨fun G w hw=>?_⟩
 rcases pP hw h hs qE with ⟨_,h2⟩ | ⟨r,cap,rfl,b1,b2,b3,_⟩
 ·omega
 have hrun:∀ w',(Instr.sliceAt t (.slice (some ⟨r,0,none⟩) n cap) (some (.int kl lo)) none none).run P w'=.ok (.slice (some ⟨r,lo,none⟩) (n - lo) (cap - lo)) w':=by
  intro w'
  have hb:(Instr.sliceBounds true n cap (some (.int kl lo)) none none).run P w'=.ok (lo,n,cap) w':=by
   have hhc:(n:Int)≤(cap:Int):=by omega
   have hlh:(lo:Int)≤(n:Int):=by omega
   have h1:lo≤n:=by omega
   simp [Instr.sliceBounds,Instr.sliceBound,asIntOf,hhc,h1,hlh] <;> omega
  have hne:cap≠lo:=by omega
  simp [Instr.sliceAt,run_underlying ht.und,Instr.slice,hb,dB ht.size,hne,eI]
 exact ⟨_,fs,fun w' _=>dH (hrun w'),k r cap rfl,hw⟩
def rN {α:Type} (l m:List α) (lo:Nat):List α:=l.take lo++m.take (min m.length (l.length - lo))++l.drop (lo+min m.length (l.length - lo))
theorem pZ {α:Type} (l m:List α) (lo:Nat) (h:lo≤l.length):(rN l m lo).length=l.length:=by
 unfold rN; simp; omega
theorem seg_getA {α:Type} (l cs:List α) (o x:Nat) (h:o+cs.length≤l.length) :
  (l.take o++cs++l.drop (o+cs.length))[x]? = if o≤x∧x<o+cs.length then cs[x - o]? else l[x]? := by
 rw [List.append_assoc]
 by_cases h1:x<o
 ·rw [List.getElem?_append_left (by simp; omega),if_neg qN,List.getElem?_take_of_lt h1]
 ·rw [List.getElem?_append_right (by simp; omega)]
  have hl:(l.take o).length=o:=by simp; omega
  rw [hl]
  by_cases h2:x<o+cs.length
  ·rw [List.getElem?_append_left qN,if_pos ⟨by omega,h2⟩]
  ·rw [List.getElem?_append_right qN,if_neg qN,List.getElem?_drop]
   congr 1
   omega
theorem copy_one {α:Type} {gv:α→Value} {z:α} (hg:∀ a,(gv a).oneCell'=true) {P:Program} {t ty e:TypeId} {u:Value} {r c cc lo bytes:Nat} {l m:List α} {os:List Own} {fs:List bA} {K:cE} [ht:TSl P t e 1] [he:TEl P e 1 bytes] (pos:Nat)
  (h:bQ os pos=some (kU 1 (fun a=>.one (gv a)) z (.slice (some ⟨r,0,none⟩) l.length c) l)) (hm:(u,LD 1 (fun a=>.one (gv a)) z m)∈fs) (hlo:lo<l.length)
  (k':K (.int .i64 (min m.length (l.length - lo):Nat)) (setOwn os pos (kU 1 (fun a=>.one (gv a)) z (.slice (some ⟨r,0,none⟩) l.length c) (rN l m lo))) fs) :
  CopyK P [t,t] ty (.slice (some ⟨r,lo,none⟩) (l.length - lo) cc) u os fs K:=by
 refine ⟨fun G w hw=>?_⟩
 obtain ⟨ti,z0,i1,i2,i3,i4,i5,i6⟩:=he.info
 obtain ⟨a,mc,rfl,g2,g3,g4,g5,g6⟩:=(hw.facts _ hm).sl
 have hcn:∃ cnt,cnt=min m.length (l.length - lo):=⟨_,rfl⟩
 obtain ⟨cnt,hcnt⟩:=hcn
 have hcv:rN l m lo=l.take lo++m.take cnt++l.drop (lo+cnt):=by rw [hcnt]; rfl
 rw [← hcnt] at k'
 have hshort:Rd (Good G.A os w) w (.slice a cnt mc) (.sl 1 cnt fun i=>.one (gv (m.getD i z))) :=
  ⟨[_],⟨a,mc,rfl,by omega,g3,fun h=>⟨by have:=(g4 h).1; omega,(g4 h).2⟩,fun b hb hp=>g5 b hb qN,fun i hi=>g6 i qN⟩,rfl⟩
 obtain ⟨ba,bc,news,hbe,n1,n2,n3,n4⟩:=pH (P:=P) hshort
 simp only [Value.slice.injEq,true_and] at hbe
 obtain ⟨rfl,rfl⟩:=hbe
 have hnw:news=(m.take cnt).map gv:=by
  apply List.ext_getElem?
  intro i
  by_cases hi:i<cnt
  ·obtain ⟨cs,⟨rfl,_⟩,_,c3⟩:=n4 i hi
   have:=c3 0 qE
   simp only [Nat.mul_one,Nat.add_zero] at this
   rw [this]
   have him:i<m.length:=by omega
   simp [gE,hi,him]
  ·rw [List.getElem?_eq_none qN,List.getElem?_eq_none (by simp; omega)]
 subst hnw
 have hul:((m.take cnt).map gv).length=cnt:=by simp; omega
 have hNg:∀ j,j<cnt→((m.take cnt).map gv)[j]? = some (gv (m.getD j z)):=fun j hj=>by
  have h2:j<m.length:=by omega
  simp [gE,hj,h2]
 generalize (m.take cnt).map gv=N at *
 rcases pP hw h ⟨_,_,_,rfl⟩ qE with ⟨h1,_⟩ | ⟨r',cap,h1,b1,b2,b3,cur,t0,b4,b5,b6⟩
 ·simp at h1
 simp only [Value.slice.injEq,Option.some.injEq,Addr.mk.injEq,and_true,true_and] at h1
 obtain ⟨rfl,rfl⟩:=h1
 have hfit:lo+N.length≤cur.size:=by rw [b5,hul]; omega
 have hst:=eS (P:=P) r lo t0 N 0 cur w b4 (by simpa using hfit) n2
 simp only [Nat.add_zero] at hst
 have hmin:Nat.min m.length (l.length - lo)=cnt:=hcnt.symm
 have hrun:(Builtin.copy_ [t,t].toArray ty #[.slice (some ⟨r,lo,none⟩) (l.length - lo) cc,.slice a m.length mc]).run P w =
   .ok (.int .i64 (cnt:Nat)) (w.setRow r (cur.toList.take lo++N++cur.toList.drop (lo+N.length)).toArray):=by
  have h3:=n3 w fun _=>rfl
  have h4:(Builtin.firstCells 1 cnt (.slice a m.length mc)).run P w=.ok N.toArray w:=by rw [← h3]; cases a <;> rfl
  simp only [Builtin.copy_]
  simp [run_underlying ht.und,sizeOf,typeInfo,i1,i2,Builtin.lenOf,hmin,h4,goInt,hst]
 rw [gO hrun]
 refine ⟨_,_,k',?_⟩
 have hhas:(kU 1 (fun a=>.one (gv a)) z (.slice (some ⟨r,0,none⟩) l.length c) l).has r:=⟨0,Nat.zero_lt_one,rfl⟩
 refine hw.step h rfl rfl rfl qP (fun q hq hno=>setRow_other w r q _ fun e'=>hno (e' ▸ hhas)) (fun b hb=>.inl hb) (fun a b c ha hb _ _=>by
  have ha':a<1:=ha
  have hb':b<1:=hb
  omega) fun mono y hy=>?_
 refine .inr (.inl ⟨r,c,by simp only [kU,bL,pZ l m lo (Nat.le_of_lt hlo)],b1,by show (rN l m lo).length≤c; rw [pZ l m lo (Nat.le_of_lt hlo)]; exact b2,b3,_,t0,b4.set (by simp only [List.size_toArray,List.length_append,List.length_take,List.length_drop,Array.length_toList]; omega),?_,fun i hi=>?_⟩)
 ·simp only [List.size_toArray,List.length_append,List.length_take,List.length_drop,Array.length_toList] at hfit ⊢
  show _=c*1
  omega
 ·simp only [kU,bL,pZ l m lo (Nat.le_of_lt hlo)] at hi
  refine ⟨[gv ((rN l m lo).getD i z)],⟨rfl,hg _⟩,rfl,fun j hj=>?_⟩
  obtain rfl:j=0:=by have:j<1:=hj; omega
  rw [List.getElem?_toArray,kZ _ _ _ _ (by simpa using hfit),hcv]
  have e1:cur.toList[i]? = some (gv (l.getD i z)):=by
   obtain ⟨cs,⟨rfl,_⟩,_,c3⟩:=b6 i hi
   have:=c3 0 qE
   simp only [Nat.mul_one,Nat.add_zero] at this
   rw [Array.getElem?_toList]; exact this
  have e2:(l.take lo++m.take cnt++l.drop (lo+cnt))[i]? = if lo≤i∧i<lo+cnt then (m.take cnt)[i - lo]? else l[i]? := by
   have hx:(m.take cnt).length=cnt:=by simp; omega
   have:=seg_getA l (m.take cnt) lo i (by rw [hx]; omega)
   rwa [hx] at this
  simp only [kU,bL,Nat.mul_one,Nat.add_zero]
  have e3:(l.take lo++m.take cnt++l.drop (lo+cnt)).getD i z=(if lo≤i∧i<lo+cnt then (m.take cnt)[i - lo]? else l[i]?).getD z:=by
   rw [gE,e2]
  rw [hul,e1,e3]
  by_cases hc:lo≤i∧i<lo+cnt
  ·rw [if_pos hc,if_pos hc]
   have h1:i - lo<cnt:=by omega
   have h2:i - lo<m.length:=by omega
   rw [hNg _ h1]
   simp [gE,h1,h2]
  ·rw [if_neg hc,if_neg hc]
   simp [gE,hi]
theorem make_T {P:Program} {t e:TypeId} [ht:TSl P t e 1] [he:TEl P e 1 1] [hz:iD P e (.one (.bool false))] {n:Nat} {k1 k2:IntKind} {x y:Int} {os:List Own} {fs:List bA} {K:cE} (hx:x=(n:Int)) (hy:y=(n:Int)) (hn:n≤100000)
  (k:∀ v,eQ v→K v (qY v (List.replicate n false)::os) fs):MakeK P t (.int k1 x) (.int k2 y) os fs K:=by
 have h1:=uQ (P:=P) (t:=t) (os:=os) (fs:=fs) (k1:=k1) (k2:=k2) (x:=x) (y:=y) (d:=.one (.bool false)) (K:=fun u os' fs'=>∃ os'' fs'',Seals os' fs' os'' fs''∧K u os'' fs'') n hx hy qN qN fun v hv=>⟨_,_,Seals.own_cong (hsz:=.inl qE) (os:=bL v 1 n (fun _=>.one (.bool false))::os) (fs:=fs) 0 (n':=(List.replicate n false).length) (fun i=>boE ((List.replicate n false).getD i false)) rfl qP (fun i hi=>by
  simp [gE,hi,boE]),k v hv⟩
 exact ⟨Grw.sealed h1.out⟩
theorem tU (b:List Nat) (n:Nat):(jR b n).length=n:=by simp [jR]
def truT (b:List Nat) (n i:Nat):List Bool:=jR b i++List.replicate (n - i) false
theorem truT_len (b:List Nat) (n i:Nat) (h:i≤n):(truT b n i).length=n:=by simp [truT,tU]; omega
theorem truT_succ (b:List Nat) (n i:Nat) (h:i<n):(truT b n i).set i (decide (b.getD (i/8) 0/2^(i%8)%2=1))=truT b n (i+1):=by
 have h1:=tU b i
 have h2:jR b (i+1)=jR b i++[decide (b.getD (i/8) 0/2^(i%8)%2=1)]:=by simp [jR,List.range_succ]
 have h3:List.replicate (n - i) false=false::List.replicate (n - (i+1)) false:=by rw [show n - i=n - (i+1)+1 by omega,List.replicate_succ]
 unfold truT
 rw [h2,h3,List.set_append_right i _ qN,h1,Nat.sub_self,List.set_cons_zero,List.append_assoc]
 rfl
theorem fTruths (v:Value) (b:List Nat) (n:Nat) (hn:n≤8*b.length) (hn2:n≤4000) (hb:Byt b):aY Tryz.prog 70 [v,.int .i64 (n:Nat)] [(v,BD b)] (fun r os fs=>fs=[]∧eQ r∧os=[qY r (jR b n)]):=by
 refine mV Tryz.func70 ?_
 refine make_T (n:=n) rfl rfl qN fun v1 hv1=>?_
 refine nN 0 rfl hv1 fun _=>?_
 have e0:truT b n 0=List.replicate n false:=by simp [truT,jR]
 rw [show (List.replicate n false).length=n by simp]
 refine bD (X:=Nat) (fun i=>([(0,v),(5,v1),(10,.int .i64 (n:Nat)),(11,.int .i64 (i:Nat))],[qY v1 (truT b n i)],[(v,BD b)])) (fun i=>i≤n) (fun i=>n - i) rfl ?_ ?_
 ·refine bB 0 (Nat.zero_le _) trivial qF ?_
  simp only [e0]
  exact aD qS
 intro i hi
 replace hi:i≤n:=hi
 have hgl:=truT_len b n i hi
 refine aO _ rfl (fun hlt=>?_) (fun hlt=>?_)
 ·have hil:i<n:=by omega
  have hsu:=truT_succ b n i hil
  have hib:i/8<b.length:=by omega
  have hb8:b.getD (i/8) 0<256:=hb _ (eZ 0 hib)
  refine dJ i 3 8 rfl rfl rfl qE ?_
  refine aZ (v:=v) (n:=b.length) (size:=1) (el:=fun i=>by8 (b.getD i 0)) qM (i/8) rfl hib fun a1=>?_
  refine bF (u:=.int .u8 (b.getD (i/8) 0:Nat)) qM ?_
  generalize b.getD (i/8) 0=c at *
  refine vX i 3 8 rfl rfl rfl qN qN ?_
  refine dJ c (i%8) (2^(i%8)) rfl rfl rfl (by show i%8≤8; omega) ?_
  have hq:c/2^(i%8)≤c:=Nat.div_le_self _ _
  generalize c/2^(i%8)=w at *
  refine and_u8 w 1 2 rfl rfl rfl qN qN ?_
  generalize truT b n i=T at *
  have hil':i<T.length:=by omega
  refine aO (((w%2:Nat):Int)=1) rfl (fun h1=>?_) (fun h1=>?_)
  ·rw [decide_eq_true (show w%2=1 by omega)] at hsu
   refine eM 0 rfl hv1 i rfl hil' ?_
   refine t5 (f:=boE) (z:=false) 0 rfl true rfl qK (aP rfl) hil' ?_
   refine ar rfl qI ?_
   refine bB (i+1) qO qO qF ?_
   simp only [← hsu]
   exact aD qS
  ·rw [decide_eq_false (show ¬ w%2=1 by omega)] at hsu
   refine eM 0 rfl hv1 i rfl hil' ?_
   refine t5 (f:=boE) (z:=false) 0 rfl false rfl qK (aP rfl) hil' ?_
   refine ar rfl qI ?_
   refine bB (i+1) qO qO qF ?_
   simp only [← hsu]
   exact aD qS
 ·obtain rfl:i=n:=by omega
  have e1:truT b i i=jR b i:=by simp [truT]
  exact fin ⟨rfl,hv1,by rw [← e1]; rfl⟩ (aD qS)
theorem fSize (n:Nat) (hn:n≤100000):aY Tryz.prog 44 [.int .i64 (n:Nat)] [] (fun r os fs=>os=[]∧fs=[]∧r=.int .i64 (2*n+2:Nat)):=by
 refine mV Tryz.func44 ?_
 refine ar rfl qI ?_
 refine ar rfl qI ?_
 exact fin ⟨rfl,rfl,rfl⟩ (aD qS)
def eC (j:Jb):Nat:=6+(2*cA j+2)
theorem fRest (v:Value) (j:Jb) (h:j.in64) (hab:j.a<j.b∧j.b≤j.a+2048):aY Tryz.prog 41 [v] [(v,cO j)] (fun r os fs=>os=[]∧fs=[]∧r=.int .i64 (eC j:Nat)):=by
 have hu:cA j≤600:=by unfold cA; omega
 refine mV Tryz.func41 ?_
 refine aQ (aA (d:=cO j) qM) fun p1 hp1=>?_
 refine aE (d:=cO j) 0 rfl hp1 rfl cZ fun u1=>?_
 refine cH (jUnits u1 j h hab) ?_
 refine cH (fSize (cA j) qN) ?_
 refine ar rfl qI ?_
 exact fin ⟨rfl,rfl,by unfold eC; congr 1⟩ (dS (aD (fs':=[]) qS))
theorem bGrow (n:Nat) (h0:0<n) (hn:n≤1000000):aY Tryz.prog 136 [.slice none 0 0,.int .i64 (n:Nat)] [] (fun r os fs=>fs=[]∧eQ r∧os=[kN r []]):=by
 refine mV Tryz.func136 ?_
 refine aL rfl qN ?_
 refine oth_cap (size:=1) rfl rfl rfl rfl ?_
 refine len_val ?_
 refine ar rfl qI ?_
 refine ar rfl qI ?_
 refine bG rfl qN ?_
 refine oth_cap (size:=1) rfl rfl rfl rfl ?_
 refine slice_nil ?_
 rw [show ((n:Nat):Int) - (((0:Nat):Int) - ((0:Nat):Int))=(n:Nat) by omega]
 refine app_room Tryz.underlying3 h0 hn fun r c hc=>?_
 refine len_val ?_
 refine slice_zero hc ?_
 exact fin ⟨rfl,⟨_,_,_,rfl⟩,rfl⟩ (aD qS)
def sumL (Ls:List (List Nat)):Nat:=(Ls.map List.length).sum
theorem sumL_app (A B:List (List Nat)):sumL (A++B)=sumL A+sumL B:=by simp [sumL]
theorem take_one {Ls:List (List Nat)} {i:Nat} (h:i<Ls.length):Ls.take (i+1)=Ls.take i++[Ls.getD i []]:=by
 rw [List.take_add_one,List.getElem?_eq_getElem h,gE,List.getElem?_eq_getElem h]
 rfl
theorem sumL_take {Ls:List (List Nat)} {i:Nat} (h:i<Ls.length):sumL (Ls.take (i+1))=sumL (Ls.take i)+(Ls.getD i []).length:=by
 rw [take_one h,sumL_app]
 simp [sumL]
theorem sumL_le {Ls:List (List Nat)} (i:Nat):sumL (Ls.take i)≤sumL Ls:=by
 have:sumL Ls=sumL (Ls.take i)+sumL (Ls.drop i):=by rw [← sumL_app,List.take_append_drop]
 omega
theorem flat_take {Ls:List (List Nat)} {i:Nat} (h:i<Ls.length):(Ls.take (i+1)).flatten=(Ls.take i).flatten++Ls.getD i []:=by
 rw [take_one h,List.flatten_append]
 simp
theorem flat_len (Ls:List (List Nat)):Ls.flatten.length=sumL Ls:=by simp [sumL,List.length_flatten]
theorem bConcat (v:Value) (Ls:List (List Nat)) (h0:0<sumL Ls) (hs:sumL Ls≤900000):aY Tryz.prog 107 [v] [(v,LD 1 BD [] Ls)] (fun r os fs=>fs=[]∧eQ r∧os=[kN r Ls.flatten]):=by
 refine mV Tryz.func107 ?_
 refine aS (v:=v) (n:=Ls.length) (size:=1) qM fun hll=>?_
 refine bD (X:=Nat) (fun i=>([(0,v),(3,.int .i64 (sumL (Ls.take i):Nat)),(9,v),(10,.int .i64 (Ls.length:Nat)),(11,.int .i64 (i:Nat))],[],[(v,LD 1 BD [] Ls)])) (fun i=>i≤Ls.length) (fun i=>Ls.length - i) rfl ?_ ?_
 ·exact bB 0 (Nat.zero_le _) trivial qF (aD qS)
 ·intro i hi
  replace hi:i≤Ls.length:=hi
  have hle:=sumL_le (Ls:=Ls) i
  refine aO _ rfl (fun hlt=>?_) (fun hlt=>?_)
  ·have hil:i<Ls.length:=by omega
   have hsu:=sumL_take hil
   have hle2:=sumL_le (Ls:=Ls) (i+1)
   refine aZ (v:=v) (n:=Ls.length) (size:=1) (el:=fun i=>BD (Ls.getD i [])) qM i rfl hil fun a1=>?_
   generalize Ls.getD i []=x at *
   refine cS (d:=BD x) qM (inferInstance:lG _ _) fun u1=>?_
   refine aS (v:=u1) (n:=x.length) (size:=1) qM fun _=>?_
   refine ar rfl qI ?_
   refine aL rfl qN ?_
   refine ar rfl qI ?_
   refine bB (i+1) qO qO ?_ (aD qS)
   simp only [hsu]
   exact qF
  ·obtain rfl:i=Ls.length:=by omega
   rw [List.take_length]
   refine bN (bGrow (sumL Ls) h0 qN) (aT _ _) (bP _) ?_
   rintro v1 _ _ ⟨rfl,hv1,rfl⟩
   refine aS (v:=v) (n:=Ls.length) (size:=1) qM fun _=>?_
   refine bD (X:=Nat×Value) (fun x=>([(6,x.2),(25,v),(26,.int .i64 (Ls.length:Nat)),(27,.int .i64 (x.1:Nat))],[kN x.2 (Ls.take x.1).flatten],[(v,LD 1 BD [] Ls)])) (fun x=>x.1≤Ls.length∧eQ x.2) (fun x=>Ls.length - x.1) rfl ?_ ?_
   ·exact bB (0,v1) ⟨Nat.zero_le _,hv1⟩ trivial qF (aD qS)
   rintro ⟨i,vo⟩ ⟨hi,hvo⟩
   simp only at hi hvo ⊢
   have hfl:=flat_len (Ls.take i)
   have hle:=sumL_le (Ls:=Ls) i
   refine aO _ rfl (fun hlt=>?_) (fun hlt=>?_)
   ·have hil:i<Ls.length:=by omega
    have hsu:=flat_take hil
    have hs2:=sumL_take hil
    have hle2:=sumL_le (Ls:=Ls) (i+1)
    refine aZ (v:=v) (n:=Ls.length) (size:=1) (el:=fun i=>BD (Ls.getD i [])) qM i rfl hil fun a1=>?_
    generalize Ls.getD i []=x at *
    refine cS (d:=BD x) qM (inferInstance:lG _ _) fun u1=>?_
    refine eU 0 rfl hvo (cI qM) qN qN fun u2 hu2=>?_
    refine ar rfl qI ?_
    refine bB (i+1,u2) ⟨qO,hu2⟩ qO qF ?_
    simp only [hsu]
    exact aD qS
   ·obtain rfl:i=Ls.length:=by omega
    rw [List.take_length]
    exact fin ⟨rfl,hvo,rfl⟩ (aD qS)
theorem CopyK.pre {P:Program} {ts:List TypeId} {ty:TypeId} {a b:Value} {os os':List Own} {fs fs':List bA} {K:cE} (hs:Seals os fs os' fs') (h:CopyK P ts ty a b os' fs' K):CopyK P ts ty a b os fs K :=
 ⟨fun G w hw=>h.out G w (hs G w hw)⟩
section
variable {P:Program} {t:TypeId} {x y:Operand} {os:List Own} {fs:List bA} {K:cE}
theorem shl_i64 {k':IntKind} {z s:Int} (a n:Nat) (hz:z=(a:Int)) (hs:s=(n:Int)) (hn:n≤64) (hlt:a*2^n<9223372036854775808)
  (h1:K (.int .i64 ((a*2^n:Nat):Int)) os fs):pC P .shl t x y (.int .i64 z) (.int k' s) os fs K:=by
 subst hs hz
 refine ⟨dD _ (fun w=>?_) h1⟩
 have h0:¬ ((n:Int)<0):=by omega
 have hb:min n IntKind.i64.bits=n:=Nat.min_eq_left hn
 have h2:IntKind.i64.wrap ((a:Int)*2^n)=((a*2^n:Nat):Int):=by
  have:(a:Int)*2^n=((a*2^n:Nat):Int):=by simp
  rw [this]
  generalize a*2^n=q at hlt
  exact bT ⟨by omega,by omega⟩
 simp [eqGuard,binOp,Op.shift,h0,hb,h2]
theorem or_i64 {z u:Int} (a b:Nat) (hz:z=(a:Int)) (hu:u=(b:Int)) (ha:a<4611686018427387904) (hb:b<4611686018427387904)
  (h1:K (.int .i64 ((a ||| b:Nat):Int)) os fs):pC P .or t x y (.int .i64 z) (.int .i64 u) os fs K:=by
 subst hz hu
 refine ⟨dD _ (fun w=>?_) h1⟩
 have hlt:a ||| b<2^62:=Nat.or_lt_two_pow ha hb
 have hb':(BitVec.ofInt 64 (a:Int) ||| BitVec.ofInt 64 (b:Int)).toNat=a ||| b:=by
  rw [BitVec.toNat_or]
  have e1:(BitVec.ofInt 64 (a:Int)).toNat=a:=by rw [BitVec.toNat_ofInt]; omega
  have e2:(BitVec.ofInt 64 (b:Int)).toNat=b:=by rw [BitVec.toNat_ofInt]; omega
  rw [e1,e2]
 have hd:∀ X Y:BitVec 64,(X ||| Y).toNat=a ||| b→IntKind.i64.wrap ((X ||| Y).toNat:Int)=((a ||| b:Nat):Int):=fun X Y h=>by
  rw [h]; exact bT ⟨by omega,by omega⟩
 simp only [eqGuard,binOp,Op.intBits,Sem.run_bind,Sem.run_pure,Result.andThen_ok,IntKind.bits,ne_eq,not_true,if_false]
 exact congrArg (fun n=>Result.ok (Value.int .i64 n) w) (hd _ _ hb')
theorem lit_B3 {t e:TypeId} {bytes:Nat} [ht:TSl P t e 1] [he:TEl P e 1 bytes] {a b c:Value} (A B C:List Nat) (ha:(a,BD A)∈fs) (hb:(b,BD B)∈fs) (hc:(c,BD C)∈fs) (k:∀ v,K v os ((v,LD 1 BD [] [A,B,C])::fs)):BuildSliceK P t 3 [(0,a),(1,b),(2,c)] os fs K:=by
 have h1:=iQ (P:=P) (t:=t) (os:=os) (fs:=fs) (K:=fun u os' fs'=>∃ os'' fs'',Seals os' fs' os'' fs''∧K u os'' fs'') (n:=3) [a,b,c] [BD A,BD B,BD C] rfl rfl qE qE ⟨aA ha,rfl,aA hb,rfl,aA hc,rfl,trivial⟩
 refine ⟨Grw.sealed (h1 fun v=>⟨_,_,?_,k v⟩).out⟩
 exact Seals.knw_cong rfl fun i hi=>by
  obtain rfl | rfl | rfl:i=0∨i=1∨i=2:=by omega
  all_goals rfl
end
def faD (j:Jb) (r:Nat) (dv hv:Value) (pb:Bool) (gen:Nat) (lv pv:Value):Dat :=
 .cat (cO j) (.cat (.one (cN r)) (.cat (.one dv) (.cat (.one hv) (.cat (.one (.bool pb)) (.cat (.one (.bool false)) (.cat (.one (.int .i64 (gen:Nat))) (.cat (.one lv) (.one pv))))))))
def faO (q:Nat) (j:Jb) (r:Nat) (dv hv:Value) (pb:Bool) (gen:Nat) (lv pv:Value):Own:=bL (cN q) 13 1 (fun _=>faD j r dv hv pb gen lv pv)
def iW (j:Jb) (D H:List Bool):List Nat:=gL j++oN D++oN H
theorem lH (j:Jb) (D H:List Bool):(iW j D H).length=48+(D.length+7)/8+(H.length+7)/8:=by simp [iW,kB,vP]; omega
theorem byt_state (j:Jb) (D H:List Bool):Byt (iW j D H):=((byt_job j).app (byt_bits D)).app (byt_bits H)
theorem fState (q:Nat) (j:Jb) (r:Nat) (dv hv:Value) (pb:Bool) (gen:Nat) (lv pv:Value) (D H:List Bool) (hj:j.ok) (hD:D.length≤600) (hH:H.length≤2048) :
  aY Tryz.prog 69 [cN q] [(cN q,.ptr (faD j r dv hv pb gen lv pv)),(dv,TD D),(hv,TD H)] (fun x os fs=>fs=[]∧eQ x∧os=[kN x (iW j D H)]):=by
 refine mV Tryz.func69 ?_
 refine bC [0,1,2,3,5,6,7,8,10,11,12,13,4,9,14,15,16,17] [0,1,2,3,4,5,6,7,8,9,10,11,12,13,14,15,16,17] qK qK ?_
 refine gV (d:=faD j r dv hv pb gen lv pv) qM (aJ (aG _)) fun a1=>?_
 refine cS (d:=cO j) qM cZ fun u1=>?_
 refine gV (d:=faD j r dv hv pb gen lv pv) qM (aC (aC (aJ (aG _)))) fun a2=>?_
 refine bF (u:=dv) qM ?_
 refine gV (d:=faD j r dv hv pb gen lv pv) qM (aC (aC (aC (aJ (aG _))))) fun a3=>?_
 refine bF (u:=hv) qM ?_
 refine cG (jBytes u1 j hj) fun x1=>?_
 refine cF (fBits dv D qN) ?_
 rintro x2 _ _ ⟨rfl,hx2,rfl⟩
 refine cF (fBits hv H qN) ?_
 rintro x3 _ _ ⟨rfl,hx3,rfl⟩
 refine BuildSliceK.pre (aM (Seals.B 0 rfl hx3) (Seals.B 0 rfl hx2)) ?_
 refine lit_B3 (gL j) (oN D) (oN H) qM qM qM fun x4=>?_
 have hc:sumL [gL j,oN D,oN H]=48+((D.length+7)/8+(H.length+7)/8):=by simp [sumL,kB,vP]
 refine cF (bConcat x4 [gL j,oN D,oN H] qN qN) ?_
 rintro x5 _ _ ⟨rfl,hx5,rfl⟩
 have hfl:[gL j,oN D,oN H].flatten=iW j D H:=by simp [iW]
 exact fin ⟨rfl,hx5,by rw [← hfl]; rfl⟩ (aD qS)
theorem fOver {fs:List bA} {K:cE} (q:Nat) (j:Jb) (r:Nat) (dv hv:Value) (pb:Bool) (gen:Nat) (lv pv:Value) (rest:List Own)
  (kk:K (.int .i64 0) (faO q j r dv hv pb gen lv pv::rest) fs) :
  CallK Tryz.prog false (.func (.func 48) #[] #[]) [cN q,.int .i64 0] (faO q j r dv hv pb gen lv pv::rest) fs K:=by
 refine bX (args:=[cN q,.int .i64 0]) (caps:=[]) Tryz.func48 qK rfl qK (Nat.le_of_ble_eq_true rfl) ?_
 refine aF 0 rfl (aU q) ?_
 refine aB (u:=.bool false) (e:=fun _=>faD j r dv hv pb gen lv pv) 0 rfl (aC (aC (aC (aC (aC (aJ (aG _))))))) ?_
 refine aL rfl qN ?_
 refine aF 0 rfl (aU q) ?_
 refine cP (e:=fun _=>faD j r dv hv pb gen lv pv) 0 rfl (aU q) (Rep.rk (Rep.rk (Rep.rk (Rep.rk (Rep.rk (Rep.left (cD (n:=.one (.bool false)) rfl)) rfl) rfl) rfl) rfl) rfl) (aP rfl) ?_
 exact fin kk (aT _ _)
theorem fRecord {fs:List bA} {K:cE} (q:Nat) (j:Jb) (r:Nat) (dv hv:Value) (pb:Bool) (gen:Nat) (lv pv u:Value) (D H:List Bool) (rest:List Own) (i h:Nat) (hi:i<D.length) (hiH:4*i<H.length) (hi2:i<256) (hh8:h<256) (hd:eQ dv) (hh:eQ hv) (hH:H.length≤2048) (hu:(u,BD [i,0,h])∈fs)
  (kk:K (.tuple #[]) (faO q j r dv hv pb gen lv pv::qY dv (D.set i true)::qY hv (rN H (jR [h] 4) (4*i))::rest) fs) :
  CallK Tryz.prog false (.func (.func 45) #[] #[]) [cN q,u] (faO q j r dv hv pb gen lv pv::qY dv D::qY hv H::rest) fs K:=by
 refine bX (args:=[cN q,u]) (caps:=[]) Tryz.func45 qK rfl qK (Nat.le_of_ble_eq_true rfl) ?_
 refine aS (v:=u) (n:=[i,0,h].length) (size:=1) hu fun _=>?_
 refine aL rfl (by show ¬ ((([i,0,h].length:Nat):Int)≠3); simp) ?_
 refine bC [0,1,2,3,4,5,6,7,8,9,10] [0,1,2,3,4,5,6,7,8,9,10] qK qK ?_
 refine aZ (v:=u) (n:=[i,0,h].length) (size:=1) (el:=fun k=>by8 ([i,0,h].getD k 0)) hu 0 rfl (by show 0<3; decide) fun a1=>?_
 refine bF (u:=.int .u8 (i:Nat)) (.head _) ?_
 refine bJ ⟨_,Tryz.underlying5⟩ Tryz.underlying3 ((i:Nat):Int) (bT ⟨by omega,by omega⟩) ?_
 refine aZ (v:=u) (n:=[i,0,h].length) (size:=1) (el:=fun k=>by8 ([i,0,h].getD k 0)) (.tail _ hu) 1 rfl (by show 1<3; decide) fun a2=>?_
 refine bF (u:=.int .u8 ((0:Nat):Int)) (.head _) ?_
 refine bJ ⟨_,Tryz.underlying5⟩ Tryz.underlying3 ((0:Nat):Int) rfl ?_
 refine shl_i64 0 8 rfl rfl qE qE ?_
 refine or_i64 i (0*2^8) rfl rfl qN qE ?_
 rw [show i ||| 0*2^8=i by rw [show 0*2^8=0 by decide,Nat.or_zero]]
 refine aF 0 rfl (aU q) ?_
 refine aB (u:=dv) (e:=fun _=>faD j r dv hv pb gen lv pv) 0 rfl (aC (aC (aJ (aG _)))) ?_
 refine nN 1 rfl hd fun _=>?_
 refine bG rfl qN ?_
 refine aF 0 rfl (aU q) ?_
 refine aB (u:=dv) (e:=fun _=>faD j r dv hv pb gen lv pv) 0 rfl (aC (aC (aJ (aG _)))) ?_
 refine eM 1 rfl hd i rfl hi ?_
 refine t5 (f:=boE) (z:=false) 1 rfl true rfl qK (aP rfl) hi ?_
 refine eT [0,1,2,3,4,5,6,7,8,9,10] qK ?_
 refine cX [] [] [] [] [0,1,2,3,4,5,6,7,8,9,10] qK qK qK ?_
 refine aF 0 rfl (aU q) ?_
 refine aB (u:=hv) (e:=fun _=>faD j r dv hv pb gen lv pv) 0 rfl (aC (aC (aC (aJ (aG _))))) ?_
 refine ar rfl qI ?_
 refine slice_ownB (lo:=4*i) 2 rfl hh hiH fun rr c hrc=>?_
 subst hrc
 refine eV (v:=u) (l:=[i,0,h]) (.tail _ (.tail _ hu)) 2 3 _ _ (kl:=.i64) (kh:=.i64) (.inr rfl) (.inl ⟨rfl,rfl⟩) qE (by show 3≤3; decide) fun s1=>?_
 refine bN (fTruths s1 [h] 4 (by show 4≤8; decide) qE (fun n hn=>by rw [List.mem_singleton.1 hn]; exact hh8)) (aT _ _) (aX (.head _) (bP _)) ?_
 rintro s2 _ _ ⟨rfl,hs2,rfl⟩
 refine CopyK.pre (Seals.L (f:=boE) (z:=false) (size:=1) 0 rfl hs2) ?_
 refine copy_one (gv:=fun b=>.bool b) (z:=false) (fun _=>rfl) (m:=jR [h] 4) 2 rfl (.head _) hiH ?_
 exact fin kk (aD qD)
theorem nC (A B r:List Own):(A++(B++r)).Perm (B++(A++r)):=by
 rw [← List.append_assoc,← List.append_assoc]
 exact List.perm_append_comm.append_right r
theorem dSizeM (r n:Nat) (mv lv:Value):aY Tryz.prog 40 [cN r] [(cN r,.ptr (dkD n mv lv))] (fun v os fs=>os=[]∧fs=[]∧v=.int .i64 (n:Nat)):=by
 refine mV Tryz.func40 ?_
 refine gV (d:=dkD n mv lv) qM (aJ (aG _)) fun a1=>?_
 refine bF (u:=.int .i64 (n:Nat)) qM ?_
 exact fin ⟨rfl,rfl,rfl⟩ (aD qS)
theorem fLoads {fs:List bA} {K:cE} (q:Nat) (j:Jb) (r n rm:Nat) (dv hv lv pv:Value) (D H:List Bool) (L:List (Nat×List Nat)) (rest:List Own) (hj:j.ok) (hd:eQ dv) (hh:eQ hv) (hD:D.length≤600) (hH:H.length≤2048)
  (hn:n≤4096) (h4:4≤n) (hL:DkOk n L) (hB:DkB L) (hlen:L.length≤40000) (h0:genV L 0=0) (h2:genV L 2=0)
  (kk:K (.int .i64 0) (faO q j r dv hv false 1 lv pv::qY dv D::qY hv H::dkC r n rm (pL L (iW j D H)) rest) fs) :
  CallK Tryz.prog false (.func (.func 42) #[] #[]) [cN q] (faO q j r dv hv false 0 lv pv::qY dv D::qY hv H::dkC r n rm L rest) fs K:=by
 have hsl:=lH j D H
 have hsb:=byt_state j D H
 have hst:=fun gen=>fState q j r dv hv false gen lv pv D H hj hD hH
 generalize iW j D H=S at *
 refine bX (args:=[cN q]) (caps:=[]) Tryz.func42 qK rfl qK (Nat.le_of_ble_eq_true rfl) ?_
 refine aF 0 rfl (aU q) ?_
 refine aB (u:=cN r) (e:=fun _=>faD j r dv hv false 0 lv pv) 0 rfl (aC (aJ (aG _))) ?_
 refine cM (bK (nC [faO q j r dv hv false 0 lv pv,qY dv D,qY hv H] [dkO r n (.map (some rm)) (.slice none 0 0),e9 jN z512 (.map (some rm)) L] rest)) ?_
 refine wLoad0 r n rm L _ hn h4 hL hB h0 h2 ?_
 refine aL rfl qN ?_
 refine aF 2 rfl (aU q) ?_
 refine cP (e:=fun _=>faD j r dv hv false 0 lv pv) 2 rfl (aU q) (Rep.rk (Rep.rk (Rep.rk (Rep.rk (Rep.rk (Rep.rk (Rep.left (cD (n:=.one (.int .i64 ((0:Nat):Int))) rfl)) rfl) rfl) rfl) rfl) rfl) rfl) (aP rfl) ?_
 refine bG rfl qN ?_
 refine aF 2 rfl (aU q) ?_
 refine cP (e:=fun _=>faD j r dv hv false 0 lv pv) 2 rfl (aU q) (Rep.rk (Rep.rk (Rep.rk (Rep.rk (Rep.rk (Rep.rk (Rep.left (cD (n:=.one (.int .i64 ((1:Nat):Int))) rfl)) rfl) rfl) rfl) rfl) rfl) rfl) (aP rfl) ?_
 refine eT [0,1,2,3,4,5,6,7,8,9,10,11] qK ?_
 refine cX [] [] [] [10] [0,1,2,3,4,5,6,7,8,9,10,11] qK qK qK ?_
 refine aF 2 rfl (aU q) ?_
 refine aB (u:=cN r) (e:=fun _=>faD j r dv hv false 1 lv pv) 2 rfl (aC (aJ (aG _))) ?_
 refine aF 2 rfl (aU q) ?_
 refine aB (u:=.int .i64 1) (e:=fun _=>faD j r dv hv false 1 lv pv) 2 rfl (aC (aC (aC (aC (aC (aC (aJ (aG _)))))))) ?_
 refine call_lendB (hst 1) (aM (Seals.box 2 rfl (aU q) (d:=faD j r dv hv false 1 lv pv) rfl) (aM (Seals.L (f:=boE) (z:=false) (size:=1) 2 rfl hd) (Seals.L (f:=boE) (z:=false) (size:=1) 2 rfl hh))) (aX (.tail _ (.tail _ (.head _))) (aX (.tail _ (.head _)) (aX (.head _) (bP _)))) fun x hx=>?_
 refine cM (Seals.B 0 rfl hx) ?_
 refine wSave r n rm L x _ S hn h4 hL hlen (.head _) hsb qN ?_
 refine fin kk (aM (bK (nC [_,_] [faO q j r dv hv false 1 lv pv,qY dv D,qY hv H] rest)) (aD (fun F hF=>.tail _ hF)))
abbrev mW (q:Nat) (j:Jb) (r n rm:Nat) (dv hv:Value) (D H:List Bool) (pb:Bool) (L:List (Nat×List Nat)) (ql la ln qp pa pn:Nat) (rest:List Own):List Own :=
 faO q j r dv hv pb 1 (cN ql) (cN qp)::qY dv D::qY hv H::dkC r n rm L (jrO ql r la (6+(2*cA j+2)) 1 ln::jrO qp r pa 6 1 pn::rest)
def noT (n:Nat):List Bool:=List.replicate n false
theorem Jb.ok.in64 {j:Jb} (h:j.ok):j.in64:=by
 have h1:=h.f; have h2:=h.e; have h3:=h.ab; have h4:=h.b; have h5:=h.m
 exact ⟨by omega,by omega,by omega,by omega,by omega⟩
set_option maxHeartbeats 2000000 in
theorem fStart {LV:Int→Nat→Int→Lk7} (hLo:mP LV) {fs:List bA} {K:cE} (r n rm:Nat) (jv:Value) (j:Jb) (hj:oO LV j) (L:List (Nat×List Nat)) (rest:List Own) (hn:n≤4096) (hroom:eC j<n) (hL:DkOk n L) (hB:DkB L) (hlen:L.length≤30000) (h0:genV L 0=0) (h2:genV L 2=0)
  (hB2:DkB (pL L (iW j (noT (cA j)) (noT (j.b - j.a))))) (hjo:openV (pL L (iW j (noT (cA j)) (noT (j.b - j.a)))) 6 (2*cA j+2) 1=(6,0,[])) (hpo:openV (pL L (iW j (noT (cA j)) (noT (j.b - j.a)))) 4 2 1=(4,0,[])) (hu:(jv,cO j)∈fs)
  (kk:∀ q dv hv ql qp,eQ dv→eQ hv→K (.tuple #[cN q,.int .i64 0]) (mW q j r n rm dv hv (noT (cA j)) (noT (j.b - j.a)) false (pL L (iW j (noT (cA j)) (noT (j.b - j.a)))) ql 6 0 qp 4 0 rest) fs) :
  CallK Tryz.prog false (.func (.func 24) #[] #[]) [cN r,jv] (dkC r n rm L rest) fs K:=by
 have hok:=hj.1
 have hab:=hok.ab
 have hb52:=hok.b
 have h64:=hok.in64
 have hun:cA j≤600:=by unfold cA; omega
 have hrv:eC j=6+(2*cA j+2):=rfl
 have hS:(iW j (noT (cA j)) (noT (j.b - j.a))).length≤512:=by rw [lH]; simp [noT]; omega
 have hLo2:DkOk n (pL L (iW j (noT (cA j)) (noT (j.b - j.a)))):=by
  have a1:=(savA_ok hL (show 4≤n by omega)).1
  have b1:=(savB_ok (b:=iW j (noT (cA j)) (noT (j.b - j.a))) a1 (show 4≤n by omega) (by unfold bV; omega)).1
  exact (savC_ok b1 qN).1
 have hld:=fun dv hv K' (rest':List Own) (fs':List bA) (q:Nat) (h1:eQ dv) (h2':eQ hv)=>fLoads (K:=K') (fs:=fs') q j r n rm dv hv (.pointer none) (.pointer none) (noT (cA j)) (noT (j.b - j.a)) L rest' hok h1 h2' (by simp [noT]; omega) (by simp [noT]; omega) hn qN hL hB qN h0 h2
 generalize pL L (iW j (noT (cA j)) (noT (j.b - j.a)))=L2 at *
 refine bX (args:=[cN r,jv]) (caps:=[]) Tryz.func24 qK rfl qK (Nat.le_of_ble_eq_true rfl) ?_
 refine aQ (aA (d:=cO j) hu) fun p1 hp1=>?_
 refine aE (d:=cO j) 0 rfl hp1 rfl cZ fun u1=>?_
 refine bN (jUnits u1 j h64 hab) (aT _ _) (aX (.head _) (bP _)) ?_
 rintro _ _ _ ⟨rfl,rfl,rfl⟩
 refine aE (d:=cO j) 0 rfl hp1 rfl cZ fun u2=>?_
 refine bN (jValid hLo u2 j h64) (aT _ _) (aX (.head _) (bP _)) ?_
 rintro _ _ _ ⟨rfl,rfl,rfl⟩
 rw [if_pos hj]
 refine aL rfl qN ?_
 refine bC [0,2,1,3,4,5] [0,1,2,3,4,5] qK qK ?_
 refine aE (d:=cO j) 0 rfl hp1 rfl cZ fun u3=>?_
 refine qG (dSizeM r n (.map (some rm)) (.slice none 0 0)) (Seals.box 1 rfl (aU r) (d:=dkD n (.map (some rm)) (.slice none 0 0)) rfl) (aX (.head _) (bP _)) ?_
 rintro _ _ _ ⟨rfl,rfl,rfl⟩
 refine bN (fRest u3 j h64 hab) (aT _ _) (aX (.head _) (bP _)) ?_
 rintro _ _ _ ⟨rfl,rfl,rfl⟩
 refine aL rfl qN ?_
 refine eT [0,1,2,3,4,5,6,7,8,9,10,11,12] qK ?_
 refine cL 3 9 qK qK qK ?_ ?_
 ·refine ord_go [0,1,2,4,5,6,7,8,3,9,10,11,12] qK qK ?_
  refine aE (d:=cO j) 0 rfl hp1 rfl cZ fun u4=>?_
  refine aF 0 rfl hp1 ?_
  refine aB (u:=.int .u64 (j.b:Nat)) (e:=fun _=>cO j) 0 rfl (aC (aC (aC (aJ (aG _))))) ?_
  refine aF 0 rfl hp1 ?_
  refine aB (u:=.int .u64 (j.a:Nat)) (e:=fun _=>cO j) 0 rfl (aC (aC (aJ (aG _)))) ?_
  refine ar rfl qI ?_
  refine make_T (n:=cA j) rfl rfl qN fun dv hdv=>?_
  refine make_T (n:=j.b - j.a) qN qN qN fun hv hhv=>?_
  refine dE [cO j,.one (cN r),.one dv,.one hv,.one (.bool false),.one (.bool false),.one (.int .i64 ((0:Nat):Int)),.one (.pointer none),.one (.pointer none)] (by exact ⟨⟨aA (.head _),rfl⟩,⟨aP rfl,rfl⟩,⟨aP (by obtain ⟨_,_,_,rfl⟩:=hdv; rfl),rfl⟩,⟨aP (by obtain ⟨_,_,_,rfl⟩:=hhv; rfl),rfl⟩,fun S w=>⟨rfl,rfl⟩,fun S w=>⟨rfl,rfl⟩,fun S w=>⟨rfl,rfl⟩,fun S w=>⟨rfl,rfl⟩,fun S w=>⟨rfl,rfl⟩,trivial⟩) fun u5=>?_
  refine aQ (aA (d:=faD j r dv hv false 0 (.pointer none) (.pointer none)) (.head _)) fun p2 hp2=>?_
  obtain ⟨q,rfl⟩:=hp2
  refine cM (bK (List.Perm.cons _ ((List.Perm.swap _ _ _).trans (List.Perm.cons _ (List.Perm.cons _ (nC [_] [dkO r n (.map (some rm)) (.slice none 0 0),e9 jN z512 (.map (some rm)) L] rest)))))) ?_
  refine hld dv hv _ _ _ q hdv hhv ?_
  refine aL rfl qN ?_
  refine eT [0,1,2,3,4,5,6,7,8,9,10,13,14,15,11,16,12] qK ?_
  refine cX [] [] [] [8] [0,1,2,4,5,6,7,3,8,9,10,11,12,13,14,15,16] qK qK qK ?_
  refine aF 0 rfl (aU q) ?_
  refine aB (u:=.int .i64 1) (e:=fun _=>faD j r dv hv false 1 (.pointer none) (.pointer none)) 0 rfl (aC (aC (aC (aC (aC (aC (aJ (aG _)))))))) ?_
  refine bN (fSize (cA j) qN) (aT _ _) (bP _) ?_
  rintro _ _ _ ⟨rfl,rfl,rfl⟩
  refine cM (bK (nC [_,_,_] [dkO r n (.map (some rm)) (.slice none 0 0),e9 jN z512 (.map (some rm)) L2] _)) ?_
  refine wOpen r n rm L2 _ 6 (2*cA j+2) 1 qN hn hLo2 hB2 qN fun ql v1=>?_
  rw [hjo]
  refine aF 3 rfl (aU q) ?_
  refine cP (e:=fun _=>faD j r dv hv false 1 (.pointer none) (.pointer none)) 3 rfl (aU q) (Rep.rk (Rep.rk (Rep.rk (Rep.rk (Rep.rk (Rep.rk (Rep.rk (Rep.left (cD (n:=.one (cN ql)) rfl)) rfl) rfl) rfl) rfl) rfl) rfl) rfl) (aP rfl) ?_
  refine aS (v:=v1) (n:=([]:List (List Nat)).length) (size:=1) (.head _) fun _=>?_
  refine bD (X:=Unit) (fun _=>([(0,cN r),(7,cN q),(56,v1),(57,.int .i64 0),(58,.int .i64 0)],dkC r n rm L2 (jrO ql r 6 (6+(2*cA j+2)) 1 0::faO q j r dv hv false 1 (cN ql) (.pointer none)::qY dv (noT (cA j))::qY hv (noT (j.b - j.a))::bL p1 5 1 (fun _=>cO j)::rest),fs)) (fun _=>True) (fun _=>0) rfl ?_ ?_
  ·exact bB () trivial trivial qF (aD qD)
  rintro _ -
  refine aL rfl qN ?_
  refine wOpen r n rm L2 _ 4 2 1 qN hn hLo2 hB2 qN fun qp v2=>?_
  rw [hpo]
  refine aF 4 rfl (aU q) ?_
  refine cP (e:=fun _=>faD j r dv hv false 1 (cN ql) (.pointer none)) 4 rfl (aU q) (Rep.rk (Rep.rk (Rep.rk (Rep.rk (Rep.rk (Rep.rk (Rep.rk (Rep.rk (cD (n:=.one (cN qp)) rfl) rfl) rfl) rfl) rfl) rfl) rfl) rfl) rfl) (aP rfl) ?_
  refine aS (v:=v2) (n:=([]:List (List Nat)).length) (size:=1) (.head _) fun _=>?_
  refine aL rfl (by show ¬ (((0:Nat):Int) > 0); omega) ?_
  refine aF 4 rfl (aU q) ?_
  refine cP (e:=fun _=>faD j r dv hv false 1 (cN ql) (cN qp)) 4 rfl (aU q) (Rep.rk (Rep.rk (Rep.rk (Rep.rk (Rep.left (cD (n:=.one (.bool false)) rfl)) rfl) rfl) rfl) rfl) (aP rfl) ?_
  refine fin (kk q dv hv ql qp hdv hhv) (aM (aV 7 _ _) (aM (bK ((nC [_,_,_,_] [_,_,_] rest).trans (.cons _ (.cons _ (.cons _ (.cons _ (.cons _ (.swap _ _ _)))))))) (aD (fun F hF=>.tail _ hF))))
 ·refine ord_go [0,1,2,4,5,6,7,8,9,3,10,11,12] qK qK ?_
  refine aE (d:=cO j) 0 rfl hp1 rfl cZ fun u4=>?_
  refine aF 0 rfl hp1 ?_
  refine aB (u:=.int .u64 (j.b:Nat)) (e:=fun _=>cO j) 0 rfl (aC (aC (aC (aJ (aG _))))) ?_
  refine aF 0 rfl hp1 ?_
  refine aB (u:=.int .u64 (j.a:Nat)) (e:=fun _=>cO j) 0 rfl (aC (aC (aJ (aG _)))) ?_
  refine ar rfl qI ?_
  refine make_T (n:=j.b - j.a) qN qN qN fun hv hhv=>?_
  refine make_T (n:=cA j) rfl rfl qN fun dv hdv=>?_
  refine dE [cO j,.one (cN r),.one dv,.one hv,.one (.bool false),.one (.bool false),.one (.int .i64 ((0:Nat):Int)),.one (.pointer none),.one (.pointer none)] (by exact ⟨⟨aA (.head _),rfl⟩,⟨aP rfl,rfl⟩,⟨aP (by obtain ⟨_,_,_,rfl⟩:=hdv; rfl),rfl⟩,⟨aP (by obtain ⟨_,_,_,rfl⟩:=hhv; rfl),rfl⟩,fun S w=>⟨rfl,rfl⟩,fun S w=>⟨rfl,rfl⟩,fun S w=>⟨rfl,rfl⟩,fun S w=>⟨rfl,rfl⟩,fun S w=>⟨rfl,rfl⟩,trivial⟩) fun u5=>?_
  refine aQ (aA (d:=faD j r dv hv false 0 (.pointer none) (.pointer none)) (.head _)) fun p2 hp2=>?_
  obtain ⟨q,rfl⟩:=hp2
  refine cM (bK (List.Perm.cons _ (List.Perm.cons _ (List.Perm.cons _ (nC [_] [dkO r n (.map (some rm)) (.slice none 0 0),e9 jN z512 (.map (some rm)) L] rest))))) ?_
  refine hld dv hv _ _ _ q hdv hhv ?_
  refine aL rfl qN ?_
  refine eT [0,1,2,3,4,5,6,7,8,9,10,13,14,15,11,16,12] qK ?_
  refine cX [] [] [] [8] [0,1,2,4,5,6,7,3,8,9,10,11,12,13,14,15,16] qK qK qK ?_
  refine aF 0 rfl (aU q) ?_
  refine aB (u:=.int .i64 1) (e:=fun _=>faD j r dv hv false 1 (.pointer none) (.pointer none)) 0 rfl (aC (aC (aC (aC (aC (aC (aJ (aG _)))))))) ?_
  refine bN (fSize (cA j) qN) (aT _ _) (bP _) ?_
  rintro _ _ _ ⟨rfl,rfl,rfl⟩
  refine cM (bK (nC [_,_,_] [dkO r n (.map (some rm)) (.slice none 0 0),e9 jN z512 (.map (some rm)) L2] _)) ?_
  refine wOpen r n rm L2 _ 6 (2*cA j+2) 1 qN hn hLo2 hB2 qN fun ql v1=>?_
  rw [hjo]
  refine aF 3 rfl (aU q) ?_
  refine cP (e:=fun _=>faD j r dv hv false 1 (.pointer none) (.pointer none)) 3 rfl (aU q) (Rep.rk (Rep.rk (Rep.rk (Rep.rk (Rep.rk (Rep.rk (Rep.rk (Rep.left (cD (n:=.one (cN ql)) rfl)) rfl) rfl) rfl) rfl) rfl) rfl) rfl) (aP rfl) ?_
  refine aS (v:=v1) (n:=([]:List (List Nat)).length) (size:=1) (.head _) fun _=>?_
  refine bD (X:=Unit) (fun _=>([(0,cN r),(7,cN q),(56,v1),(57,.int .i64 0),(58,.int .i64 0)],dkC r n rm L2 (jrO ql r 6 (6+(2*cA j+2)) 1 0::faO q j r dv hv false 1 (cN ql) (.pointer none)::qY dv (noT (cA j))::qY hv (noT (j.b - j.a))::bL p1 5 1 (fun _=>cO j)::rest),fs)) (fun _=>True) (fun _=>0) rfl ?_ ?_
  ·exact bB () trivial trivial qF (aD qD)
  rintro _ -
  refine aL rfl qN ?_
  refine wOpen r n rm L2 _ 4 2 1 qN hn hLo2 hB2 qN fun qp v2=>?_
  rw [hpo]
  refine aF 4 rfl (aU q) ?_
  refine cP (e:=fun _=>faD j r dv hv false 1 (cN ql) (.pointer none)) 4 rfl (aU q) (Rep.rk (Rep.rk (Rep.rk (Rep.rk (Rep.rk (Rep.rk (Rep.rk (Rep.rk (cD (n:=.one (cN qp)) rfl) rfl) rfl) rfl) rfl) rfl) rfl) rfl) rfl) (aP rfl) ?_
  refine aS (v:=v2) (n:=([]:List (List Nat)).length) (size:=1) (.head _) fun _=>?_
  refine aL rfl (by show ¬ (((0:Nat):Int) > 0); omega) ?_
  refine aF 4 rfl (aU q) ?_
  refine cP (e:=fun _=>faD j r dv hv false 1 (cN ql) (cN qp)) 4 rfl (aU q) (Rep.rk (Rep.rk (Rep.rk (Rep.rk (Rep.left (cD (n:=.one (.bool false)) rfl)) rfl) rfl) rfl) rfl) (aP rfl) ?_
  refine fin (kk q dv hv ql qp hdv hhv) (aM (aV 7 _ _) (aM (bK ((nC [_,_,_,_] [_,_,_] rest).trans (.cons _ (.cons _ (.cons _ (.cons _ (.cons _ (.swap _ _ _)))))))) (aD (fun F hF=>.tail _ hF))))
end Go.Proofs.YtpbhjlljgbjjlaaGreat
