/- Towards the statement, part 5 of 6: contracts of functions, and what they rest on. Conditions: each theorem names its own. -/
import Derived.Test.YtpbhjlljgbjjlaaGreatM4
import Derived.RecoverIn
import Derived.WideLaws
import Derived.KernelRfl
set_option linter.unusedVariables false
set_option linter.unusedSimpArgs false
namespace Go.Proofs.YtpbhjlljgbjjlaaGreat
open Go.RowKit
def sR (LV:Int→Nat→Int→Lk7) (f m:Int) (p:Nat):Nat→List Bool
 | 0=>noT 4
 | n+1=>if (LV f (p+n) m).h then (sR LV f m p n).set n true else sR LV f m p n
def hardF (p:Nat) (hs:List Ht):List Bool:=hs.foldl (fun T h=>T.set (h.b - p) true) (noT 4)
theorem hardF_app (p:Nat) (a b:List Ht):hardF p (a++b)=b.foldl (fun T h=>T.set (h.b - p) true) (hardF p a):=List.foldl_append ..
theorem hardF_take {p:Nat} {hs:List Ht} {i:Nat} (h:i<hs.length):hardF p (hs.take (i+1))=(hardF p (hs.take i)).set ((hs.getD i ht0).b - p) true:=by
 rw [List.take_add_one,List.getElem?_eq_getElem h,hardF_app,gE,List.getElem?_eq_getElem h]
 rfl
theorem hardF_hits (LV:Int→Nat→Int→Lk7) (f m:Int) (p:Nat):∀ n,hardF p (iO LV f m p n)=sR LV f m p n
 | 0=>rfl
 | n+1=>by
  have ih:=hardF_hits LV f m p n
  show hardF p (iO LV f m p n++(if (LV f (p+n) m).h then [⟨p+n,LV f (p+n) m⟩] else []))=if (LV f (p+n) m).h then (sR LV f m p n).set n true else sR LV f m p n
  rw [hardF_app,ih]
  split
  ·simp
  ·rfl
theorem pX (LV:Int→Nat→Int→Lk7) (f m:Int) (p:Nat):∀ n,(sR LV f m p n).length=4
 | 0=>rfl
 | n+1=>by unfold sR; split <;> simp [pX LV f m p n]
theorem hardF_len (p:Nat) (hs:List Ht):(hardF p hs).length=4:=by
 suffices ∀ (hs:List Ht) (T:List Bool),T.length=4→(hs.foldl (fun T h=>T.set (h.b - p) true) T).length=4 from this hs _ rfl
 intro hs
 induction hs with
 | nil=>intro T h; exact h
 | cons x r ih=>intro T h; exact ih _ (by simpa using h)
theorem hits_in (LV:Int→Nat→Int→Lk7) (f m:Int) (p:Nat):∀ n,∀ h∈iO LV f m p n,p≤h.b∧h.b<p+n∧h.l=LV f h.b m∧h.l.h=true
 | 0=>fun h hh=>by cases hh
 | n+1=>fun h hh=>by
  rcases List.mem_append.1 (show h∈iO LV f m p n++(if (LV f (p+n) m).h then [⟨p+n,LV f (p+n) m⟩] else []) from hh) with h1 | h1
  ·obtain ⟨g1,g2,g3⟩:=hits_in LV f m p n h h1
   exact ⟨g1,by omega,g3⟩
  ·split at h1
   ·rename_i hq
    rw [List.mem_singleton.1 h1]
    exact ⟨by simp only; omega,by simp only; omega,rfl,hq⟩
   ·cases h1
theorem bits_four {U:List Bool} (h:U.length=4):∃ c,c<256∧oN U=[c]∧jR [c] 4=U:=by
 match U,h with
 | [a,b,c,d],_ =>
  cases a <;> cases b <;> cases c <;> cases d <;> exact ⟨_,by decide,rfl,by decide⟩
def tT (LV:Int→Nat→Int→Lk7) (j:Jb) (i:Nat):List Bool:=sR LV j.f j.m (pat j.e (j.a+4*i)) (min (j.b - (j.a+4*i)) 4)
def recB (LV:Int→Nat→Int→Lk7) (j:Jb) (i:Nat):List Nat:=[i,0]++oN (tT LV j i)
theorem recB_len (LV:Int→Nat→Int→Lk7) (j:Jb) (i:Nat):(recB LV j i).length=3:=by
 simp [recB,vP,tT,pX]
set_option maxHeartbeats 1000000 in
theorem fUnit {LV:Int→Nat→Int→Lk7} (hLo:mP LV) {fs:List bA} {K:cE} (q:Nat) (j:Jb) (hj:j.ok) (r n rm:Nat) (dv hv:Value) (D H:List Bool) (L:List (Nat×List Nat)) (ql la ln qp pa pn:Nat) (rest:List Own) (i:Nat)
  (hd:eQ dv) (hh:eQ hv) (hD:D.length=cA j) (hH:H.length=j.b - j.a) (hi:i<cA j) (hi2:i<256) (hroom:la+2≤6+(2*cA j+2)) (hen:6+(2*cA j+2)≤n) (hn:n≤4096) (hL:DkOk n L) (hlen:L.length≤40000) (hln:ln≤100000)
  (kk:K (.int .i64 0) (mW q j r n rm dv hv (D.set i true) (rN H (tT LV j i) (4*i)) false (vW L la (6+(2*cA j+2)) 1 ln (recB LV j i)) ql (la+2) (ln+1) qp pa pn rest) fs) :
  CallK Tryz.prog false (.func (.func 46) #[] #[]) [cN q,.int .i64 (i:Nat)] (mW q j r n rm dv hv D H false L ql la ln qp pa pn rest) fs K:=by
 have hab:=hj.ab
 have hb52:=hj.b
 have h64:=hj.in64
 have hun:4*i<j.b - j.a:=by unfold cA at hi; omega
 have hpi:=nG (e:=j.e) (i:=j.a+4*i) hj.e qN
 have hpn:pat j.e (j.a+4*i)+min (j.b - (j.a+4*i)) 4≤4652218415073722368:=by
  have:=nG (e:=j.e) (i:=j.b - 1) hj.e qN
  unfold pat at this ⊢; omega
 have hF:=fun (p n:Nat) h1 h2 h3=>sFind hLo j.f j.m p n hj.f hj.m h1 h2 h3
 have hrb:recB LV j i=[i,0]++oN (tT LV j i):=rfl
 have hub:tT LV j i=hardF (pat j.e (j.a+4*i)) (iO LV j.f j.m (pat j.e (j.a+4*i)) (min (j.b - (j.a+4*i)) 4)):=(hardF_hits ..).symm
 have hin:=hits_in LV j.f j.m (pat j.e (j.a+4*i)) (min (j.b - (j.a+4*i)) 4)
 have hlh:=jK LV j.f j.m (pat j.e (j.a+4*i)) (min (j.b - (j.a+4*i)) 4)
 have hFi:=hF (pat j.e (j.a+4*i)) (min (j.b - (j.a+4*i)) 4) hpi.1 hpn qN
 have hUi:=fun u1=>jUnit u1 j h64 hab hj.e hb52 i hi
 have hN:min (j.b - (j.a+4*i)) 4≤4:=Nat.min_le_right _ _
 generalize min (j.b - (j.a+4*i)) 4=N at *
 generalize tT LV j i=U at *
 generalize recB LV j i=R at *
 generalize pat j.e (j.a+4*i)=p at *
 generalize iO LV j.f j.m p N=X at *
 refine bX (args:=[cN q,.int .i64 (i:Nat)]) (caps:=[]) Tryz.func46 qK rfl qK (Nat.le_of_ble_eq_true rfl) ?_
 refine aF 0 rfl (aU q) ?_
 refine aK (d:=cO j) (e:=fun _=>faD j r dv hv false 1 (cN ql) (cN qp)) 0 rfl (aJ (aG _)) cZ fun u1=>?_
 refine bN (hUi u1) (aT _ _) (aX (.head _) (bP _)) ?_
 rintro _ _ _ ⟨rfl,rfl,rfl⟩
 refine bC [0,1,2,3,4,5,6,7,8,9,10,11,12,13,14,15,16,17] [0,1,2,3,4,5,6,7,8,9,10,11,12,13,14,16,15,17] qK qK ?_
 refine aF 0 rfl (aU q) ?_
 refine bM (aU q) ?_
 refine aB (u:=.int .i64 j.f) (e:=fun _=>faD j r dv hv false 1 (cN ql) (cN qp)) 0 rfl (aJ (aJ (aG _))) ?_
 refine aF 0 rfl (aU q) ?_
 refine bM (aU q) ?_
 refine aB (u:=.int .i64 j.m) (e:=fun _=>faD j r dv hv false 1 (cN ql) (cN qp)) 0 rfl (aJ (aC (aC (aC (aC (aG _)))))) ?_
 refine bN hFi (aT _ _) (bP _) ?_
 rintro _ _ _ ⟨rfl,x1,rfl,rfl⟩
 refine aL rfl qN ?_
 refine make_T (n:=4) rfl rfl qN fun v1 hv1=>?_
 refine aS (v:=x1) (n:=X.length) (size:=14) (.head _) fun _=>?_
 refine bD (X:=Nat) (fun t=>([(0,cN q),(1,.int .i64 (i:Nat)),(5,.int .u64 (p:Nat)),(10,v1),(45,x1),(46,.int .i64 (X.length:Nat)),(47,.int .i64 (t:Nat))],qY v1 (hardF p (X.take t))::mW q j r n rm dv hv D H false L ql la ln qp pa pn rest,(x1,HD X)::fs)) (fun t=>t≤X.length) (fun t=>X.length - t) rfl ?_ ?_
 ·exact bB 0 (Nat.zero_le _) trivial qF (aD (fun F hF=>by
   rcases List.mem_cons.1 hF with rfl | hF
   ·exact .head _
   ·repeat (first | exact hF | apply List.Mem.tail)))
 intro t ht
 replace ht:t≤X.length:=ht
 refine aO _ rfl (fun hlt=>?_) (fun hlt=>?_)
 ·have htl:t<X.length:=by omega
  have hsu:=hardF_take (p:=p) htl
  obtain ⟨hx1,hx2,_⟩:=hin _ (eZ ht0 htl)
  have hfl:=hardF_len p (X.take t)
  refine aZ (v:=x1) (n:=X.length) (size:=14) (el:=fun i=>fG (X.getD i ht0)) (.head _) t rfl htl fun a1=>?_
  generalize hhx:X.getD t ht0=h at *
  refine cS (d:=fG h) (by rw [← hhx]; exact .head _) (pU _) fun u2=>?_
  generalize hardF p (X.take t)=T at *
  refine aI (d:=fG ht0) fun p3 hp3=>?_
  refine aH (d:=fG h) 0 rfl hp3 rfl qK (aA (d:=fG h) (.head _)) ?_
  refine aF 0 rfl hp3 ?_
  refine aB (u:=.int .u64 (h.b:Nat)) (e:=fun _=>fG h) 0 rfl (aJ (aG _)) ?_
  refine ar rfl qI ?_
  refine eM 1 rfl hv1 (h.b - p) qN qN ?_
  refine t5 (f:=boE) (z:=false) 1 rfl true rfl qK (aP rfl) qN ?_
  refine ar rfl qI ?_
  refine bB (t+1) qO qO qF ?_
  simp only [hsu]
  exact dS (aD (fun F hF=>by
   rcases List.mem_cons.1 hF with rfl | hF
   ·exact .tail _ (.tail _ (.head _))
   ·repeat (first | exact hF | apply List.Mem.tail)))
 ·obtain rfl:t=X.length:=by omega
  rw [List.take_length,← hub]
  have hUl:U.length=4:=by rw [hub]; exact hardF_len p X
  obtain ⟨c,hc8,hcb,hct⟩:=bits_four hUl
  have hb:=fBits v1 U qN
  rw [hcb] at hb hrb
  rw [← hct] at kk
  refine bJ ⟨_,Tryz.underlying3⟩ Tryz.underlying5 ((i:Nat):Int) (by rw [lT]; omega) ?_
  refine dJ i 8 256 rfl rfl rfl qE ?_
  refine bJ ⟨_,Tryz.underlying3⟩ Tryz.underlying5 ((0:Nat):Int) (by rw [lT]; omega) ?_
  refine kH [i,0] rfl rfl qE fun v2 hv2=>?_
  refine call_lendB hb (Seals.L (f:=boE) (z:=false) (size:=1) 1 rfl hv1) (aX (.head _) (bP _)) fun x2 hx2=>?_
  refine AppendK.pre (Seals.B 0 rfl hx2) ?_
  refine eU 0 rfl hv2 (cI (.head _)) qP qP fun v3 hv3=>?_
  rw [← hrb]
  have hRl:R.length=3:=by rw [hrb]; rfl
  have hRs:bV R.length=1:=by rw [hRl]; rfl
  have hRb:Byt R:=fun k hk=>by
   rw [hrb] at hk
   simp only [List.cons_append,List.nil_append,List.mem_cons,List.not_mem_nil,or_false] at hk
   omega
  refine aF 2 rfl (aU q) ?_
  refine aB (u:=cN ql) (e:=fun _=>faD j r dv hv false 1 (cN ql) (cN qp)) 2 rfl (aC (aC (aC (aC (aC (aC (aC (aJ (aG _))))))))) ?_
  refine cM (aM (Seals.B 0 rfl hv3) (dS (bK (nC [_,_,_] [dkO r n (.map (some rm)) (.slice none 0 0),e9 jN z512 (.map (some rm)) L,_] _)))) ?_
  refine wAppend ql r n rm la (6+(2*cA j+2)) 1 ln L v3 _ R qN hen hn hL hlen (.head _) hRb qN qN hln ?_
  refine aL rfl qN ?_
  refine cM (bK (nC [_,_,_] [_,_,_] _)) ?_
  rw [hRs]
  refine fRecord q j r dv hv false 1 (cN ql) (cN qp) v3 D H _ i c qN qN hi2 hc8 hd hh qN (by rw [hrb]; exact .head _) ?_
  exact fin kk (aD qD)
theorem slice3_B {P:Program} {t e:TypeId} {v:Value} {l:List Nat} {kl kh km:IntKind} {os:List Own} {fs:List bA} {K:cE} [ht:TSl P t e 1]
  (hm:(v,BD l)∈fs) (lo hi:Nat) {x y z:Int} (hx:x=(lo:Int)) (hy:y=(hi:Int)) (hz:z=(hi:Int)) (h1:lo<hi) (h2:hi≤l.length)
  (k:∀ u,K u os ((u,BD ((l.take hi).drop lo))::fs)):oU P t v (some (.int kl x)) (some (.int kh y)) (some (.int km z)) os fs K:=by
 subst hx hy hz
 refine ⟨fun G w hw=>?_⟩
 obtain ⟨a,c,rfl,g2,g3,g4,g5,g6⟩:=(hw.facts _ hm).sl
 have hrun:∀ w',(Instr.sliceAt t (.slice a l.length c) (some (.int kl lo)) (some (.int kh hi)) (some (.int km hi))).run P w'=.ok (.slice (a.map (·.add (lo*1))) (hi - lo) (hi - lo)) w':=by
  intro w'
  have hhc:(hi:Int)≤(c:Int):=by omega
  have hlh:(lo:Int)≤(hi:Int):=by omega
  have hl2:lo≤hi:=by omega
  have hne:¬ hi=lo:=by omega
  have hb:(Instr.sliceBounds true l.length c (some (.int kl lo)) (some (.int kh hi)) (some (.int km hi))).run P w'=.ok (lo,hi,hi) w':=by
   simp [Instr.sliceBounds,Instr.sliceBound,asIntOf,hhc,hlh,hl2] <;> omega
  simp [Instr.sliceAt,run_underlying ht.und,Instr.slice,hb,dB ht.size,hne]
 refine ⟨_,_,fun w' _=>dH (hrun w'),k _,hw.put ?_⟩
 have hlen:((l.take hi).drop lo).length=hi - lo:=by rw [List.length_drop,List.length_take,Nat.min_eq_left h2]
 refine ⟨[_],⟨_,hi - lo,by rw [hlen],by omega,by omega,?_,?_,?_⟩,rfl⟩
 ·intro hn
  cases a with
  | none=>have:=g4 rfl; omega
  | some b=>simp at hn
 ·intro b hb hpos
  cases a with
  | none=>simp at hb
  | some b' =>
   have:=g5 b' rfl qN
   simp only [Option.map_some,Option.some.injEq] at hb
   subst hb
   unfold Addr.add; split <;> simp_all
 ·intro i hi'
  rw [hlen] at hi'
  obtain ⟨b,cs,hb,c1,c2,c3⟩:=g6 (lo+i) qN
  subst hb
  have hsp:=g5 b rfl qN
  have e1:((l.take hi).drop lo).getD i 0=l.getD (lo+i) 0:=by
   simp only [gE,List.getElem?_drop]
   rw [List.getElem?_take_of_lt qN]
  refine ⟨b.add (lo*1),cs,rfl,by show RdC _ _ (by8 _) cs; rw [e1]; exact c1,c2,fun j hj=>?_⟩
  have:=c3 j hj
  obtain ⟨bb,bo,bs⟩:=b
  simp only at hsp
  subst hsp
  rw [eI]
  simp only at this ⊢
  rw [show bo+lo*1+i*1+j=bo+(lo+i)*1+j by omega]
  exact this
theorem CallK.shutK {P:Program} {fv:Value} {args:List Value} {os:List Own} {fs:List bA} {K:cE} (h:CallK P false fv args os fs (fun v os' fs'=>∃ os'' fs'',Seals os' fs' os'' fs''∧K v os'' fs'')):CallK P false fv args os fs K :=
 ⟨Dyn.sealed h.out,fun h=>by cases h⟩
theorem bChunk (u:Value) (b:List Nat):aY Tryz.prog 78 [u,.int .i64 512] [(u,BD b)] (fun r os fs=>os=[]∧∃ p p2,r=.func (.func 117) #[] #[p,p2]∧fs=[(p,.ptr (BD b)),(p2,.ptr (.one (.int .i64 512)))]):=by
 refine mV Tryz.func78 ?_
 refine aQ (aA (d:=BD b) qM) fun p1 hp1=>?_
 refine aQ (aP (v:=.int .i64 512) rfl) fun p2 hp2=>?_
 refine aW (u:=.int .i64 512) 0 rfl hp2 rfl ?_
 refine aL rfl qN ?_
 exact fin ⟨rfl,p1,p2,rfl,rfl⟩ (aM (Seals.box 0 rfl hp2 rfl) (aM (Seals.box 0 rfl hp1 rfl) (aD qS)))
def vG (b:List Nat) (k:Nat):List Nat:=(b.drop (512*k)).take 512
def NextX {X:Type} (l:Nat) (rec:LoopState→Option Code→Loop) (ok:Nat→X→Prop) (J:Nat→X→List Own×List bA) (k:Nat) (f:Fr) (Q:iX):cE:=fun v os fs =>
 (v=.bool true∧∃ x,ok (k+1) x∧Seals os fs (dV l (rec .ready none)::(J (k+1) x).1) (J (k+1) x).2)∨(v=.bool false∧IterK l rec f Q os fs)
theorem chunkB_go {N:Nat} {g:Operand} {ps:Array Tmp} {sg bd:Code} {f:Fr} {os:List Own} {fs:List bA} {Q:iX} {p p2:Value} {X:Type} (x0:X) (ok:Nat→X→Prop) (b:List Nat) (J:Nat→X→List Own×List bA)
  (hg:ev f g=some (.func (.func 117) #[] #[p,p2])) (hp:∀ k x,k≤bV b.length→(p,.ptr (BD b))∈(J k x).2) (hp2:∀ k x,k≤bV b.length→(p2,.ptr (.one (.int .i64 512)))∈(J k x).2) (hlen:b.length≤1000000)
  (hx0:ok 0 x0) (h0:∀ o,Seals (o::os) fs (o::(J 0 x0).1) (J 0 x0).2) (hend:∀ x,ok (bV b.length) x→Q .normal f (J (bV b.length) x).1 (J (bV b.length) x).2) (hps:ps.toList.length=1) (hlt:allLt N ps.toList=true) (hok:(fH N sg&&fH N bd&&noR sg&&noR bd)=true)
  (hround:∀ l D fn tm k x fsx u,k<bV b.length→ok k x→Sub (J k x).2 fsx→(u,BD (vG b k))∈fsx→VC Tryz.prog N sg (pushP f ps.toList [u]) (dV l (recD ps sg bd fn tm D .ready none)::(J k x).1) fsx
   (asgnQ Tryz.prog N l (recD ps sg bd fn tm D) bd (NextX l (recD ps sg bd fn tm D) ok J k f Q))):OverK Tryz.prog N g ps sg bd f os fs Q:=by
 have hsv:bV b.length=(b.length+511)/512:=rfl
 generalize hS:bV b.length=S at *
 refine over_go (caps:=[p,p2]) hg (enters Tryz.func117 qK rfl) fun l D fn tm hk=>?_
 refine cM (h0 _) ?_
 refine bX (args:=[yv l]) (caps:=[p,p2]) Tryz.func117 qK rfl qK (Nat.le_of_ble_eq_true rfl) ?_
 refine bD (X:=Nat×X) (fun y=>([(0,yv l),(1,p),(2,p2),(4,.int .i64 (512*(y.1:Nat)))],dV l (recD ps sg bd fn tm D .ready none)::(J y.1 y.2).1,(J y.1 y.2).2)) (fun y=>y.1≤S∧ok y.1 y.2) (fun y=>S - y.1) rfl ?_ ?_
 ·exact bB (0,x0) ⟨Nat.zero_le _,hx0⟩ trivial qF (aT _ _)
 rintro ⟨k,x⟩ ⟨hk2,hok2⟩
 simp only at hk2 hok2 ⊢
 refine cS (hp k x hk2) (nM _) fun s=>?_
 refine aS (v:=s) (n:=b.length) (size:=1) (.head _) fun _=>?_
 refine aO (512*(k:Int)<(b.length:Nat)) rfl (fun hlt2=>?_) (fun hlt2=>?_)
 ·have hkb:k<S:=by omega
  refine bC [0,1,2,3,4,5,6] [0,1,2,3,4,5,6] qK qK ?_
  refine bF (u:=.int .i64 512) (.tail _ (hp2 k x hk2)) ?_
  refine cS (.tail _ (hp k x hk2)) (nM _) fun s2=>?_
  refine eV (v:=s2) (l:=b) (.head _) (512*k) b.length _ _ (kl:=.i64) (kh:=.i64) (.inr rfl) (.inl ⟨rfl,rfl⟩) qN (Nat.le_refl _) fun s3=>?_
  rw [List.take_length]
  refine aS (v:=s3) (n:=(b.drop (512*k)).length) (size:=1) (.head _) fun _=>?_
  refine gJ ?_
  have hdl:(b.drop (512*k)).length=b.length - 512*k:=by simp
  rw [hdl]
  refine cS (.tail _ (.tail _ (.tail _ (hp k x hk2)))) (nM _) fun s4=>?_
  refine ar rfl qI ?_
  refine ar rfl qI ?_
  refine slice3_B (v:=s4) (l:=b) (.head _) (512*k) (512*k+min 512 (b.length - 512*k)) qN qN qN qN qN fun u=>?_
  have hch:(b.take (512*k+min 512 (b.length - 512*k))).drop (512*k)=vG b k:=by
   unfold vG
   rw [← List.take_drop]
   rcases Nat.le_total 512 (b.length - 512*k) with h | h
   ·rw [Nat.min_eq_left h]
   ·rw [Nat.min_eq_right h,List.take_of_length_le qN,List.take_of_length_le qN]
  rw [hch]
  refine CallK.shutK (CallK.monoF ?_ (yield_go 0 rfl hk (by rw [hps]; rfl) hlt hok (hround l D fn tm k x _ u hkb hok2 (fun F hF=>.tail _ (.tail _ (.tail _ (.tail _ (.tail _ hF))))) (.head _))))
  rintro v os1 fs1 (⟨rfl,x',hx',hs⟩ | ⟨rfl,hI⟩)
  ·refine ⟨_,_,hs,?_⟩
   refine bF (u:=.int .i64 512) (hp2 (k+1) x' qN) ?_
   refine ar rfl qI ?_
   refine bB (k+1,x') ⟨qO,hx'⟩ qO qF (aT _ _)
  ·exact ⟨_,_,aT _ _,fin hI (aT _ _)⟩
 ·obtain rfl:k=S:=by omega
  exact fin (os':=dV l (recD ps sg bd fn tm D .ready none)::(J k x).1) (fs':=(J k x).2) ⟨0,.inl ⟨rfl,hend x hok2⟩⟩ (aD fun F hF=>.tail _ hF)
theorem info_errz:(Tryz.prog.info? 27).map (fun i=>(i.zero,i.size,i.bytes))=some (some (.int .i64 0),1,8):=by kernel_rfl
instance tzErr:iD Tryz.prog 27 (.one (.int .i64 0)):=mQ info_errz fun _ _=>⟨rfl,rfl⟩
instance iA154:TArr Tryz.prog 154 8 5 (.int .u8 0):=⟨Tryz.underlying154,by kernel_rfl,by kernel_rfl,rfl⟩
instance iZ154:iD Tryz.prog 154 (lD (List.replicate 8 (.int .u8 0))):=tz_arr iA154 qE
theorem u8s_set (l:List Nat) (i x:Nat):(u8s l).set i (.int .u8 (x:Nat))=u8s (l.set i x):=by simp [u8s,List.map_set]
def got8 (n i:Nat):List Nat:=leN n i++List.replicate (8 - i) 0
theorem got8_len (n i:Nat) (h:i≤8):(got8 n i).length=8:=by simp [got8,dO]; omega
theorem got8_succ (n i:Nat) (h:i<8):(got8 n i).set i (n/2^(8*i)%256)=got8 n (i+1):=by
 have h3:List.replicate (8 - i) 0=0::List.replicate (8 - (i+1)) 0:=by rw [show 8 - i=8 - (i+1)+1 by omega,List.replicate_succ]
 unfold got8
 rw [tH,h3,List.set_append_right i _ (by rw [dO]; omega),dO,Nat.sub_self,List.set_cons_zero,List.append_assoc]
 rfl
theorem knw_arr {os:List Own} {fs:List bA} {v:Value} {l:List Nat} {n:Nat} (hl:l.length=n) (h:(v,Dat.sl 1 n fun i=>.one ((u8s l).getD i undef))∈fs):Knw os fs v (BD l):=by
 unfold BD LD
 rw [hl]
 refine Knw.sl_cong (cI h) fun i hi=>?_
 simp [by8,u8s,gE,show i<l.length by omega]
def pubL (L:List (Nat×List Nat)) (at':Nat) (B:List Nat):List (Nat×List Nat):=fP L ([]++chW (bV B.length) at' B)
theorem pubL_ok {n at':Nat} {L:List (Nat×List Nat)} {B:List Nat} (hL:DkOk n L) (h:at'+bV B.length≤n):DkOk n (pubL L at' B)∧(pubL L at' B).length≤L.length+bV B.length:=by
 have h:=iJ (n:=n) (chW (bV B.length) at' B) L hL fun x hx=>sF h x hx
 rwa [lB] at h
set_option maxHeartbeats 4000000 in
theorem fPublish {LV:Int→Nat→Int→Lk7} (hLo:mP LV) {fs:List bA} {K:cE} (q:Nat) (j:Jb) (hj:j.ok) (r n rm:Nat) (dv hv:Value) (D H:List Bool) (L:List (Nat×List Nat)) (ql la ln qp:Nat) (rest:List Own)
  (hh:eQ hv) (hH:H.length=j.b - j.a) (hHv:∀ k,k<H.length→H.getD k false=(LV j.f (pat j.e j.a+k) j.m).h) (hC:qX (iO LV j.f j.m (pat j.e j.a) (j.b - j.a))) (B:List Nat) (hBc:B=qB j (iO LV j.f j.m (pat j.e j.a) (j.b - j.a))) (hBl:B.length≤1000000)
  (hsz:eC j+bV B.length≤n) (hn:n≤4096) (h6:6≤n) (hL:DkOk n L) (hlen:L.length≤20000)
  (kk:K (.int .i64 0) (mW q j r n rm dv hv D H true (vW (pubL L (eC j) B) 4 6 1 0 (leN B.length 8)) ql la ln qp 6 1 rest) fs) :
  CallK Tryz.prog false (.func (.func 47) #[] #[]) [cN q] (mW q j r n rm dv hv D H false L ql la ln qp 4 0 rest) fs K:=by
 have hab:=hj.ab
 have hb52:=hj.b
 have h64:=hj.in64
 have hF:=hj.f
 have hM:=hj.m
 have hE:=hj.e
 obtain ⟨hP1,hP2⟩:=pubL_ok hL hsz
 have hcS:(chW (bV B.length) (eC j) B).length=bV B.length:=lB _ _ _
 have hSv:bV B.length=(B.length+511)/512:=rfl
 have hcw:∀ u1 vo,aY Tryz.prog 77 [u1,vo] [(u1,cO j),(vo,HD (iO LV j.f j.m (pat j.e j.a) (j.b - j.a)))] (fun r os fs=>os=[]∧∃ x,r=.tuple #[x,.int .i64 0]∧fs=[(x,BD B)]):=fun u1 vo=>by
  rw [hBc]; exact cWrite u1 vo j _ hj hC
 refine inline_sem (args:=[cN q]) Tryz.func47 qK rfl (Nat.le_of_ble_eq_true rfl) ?_
 refine kM (Y:=Value×Value×Value) 3 (fun y=>([(1,y.2.2),(2,y.2.1),(3,y.1)],ownH y.1 (iO LV j.f j.m (pat j.e j.a) (j.b - j.a))::bL y.2.1 1 1 (fun _=>.one (.int .i64 0))::bL y.2.2 1 1 (fun _=>.one (cN q))::mW q j r n rm dv hv D H false L ql la ln qp 4 0 rest,fs)) (fun y=>eQ y.1∧g9 y.2.1∧g9 y.2.2) qK ?_ ?_
 ·refine aQ (aP (v:=cN q) rfl) fun p1 hp1=>?_
  refine aI (d:=.one (.int .i64 0)) fun p2 hp2=>?_
  refine aW (u:=cN q) (e:=fun _=>.one (cN q)) 1 rfl hp1 rfl ?_
  refine aF 2 rfl (aU q) ?_
  refine aB (u:=hv) (e:=fun _=>faD j r dv hv false 1 (cN ql) (cN qp)) 2 rfl (aC (aC (aC (aJ (aG _))))) ?_
  refine nN 4 rfl hh fun _=>?_
  refine bD (X:=Nat×Value) (fun x=>([(1,p1),(2,p2),(3,x.2),(20,hv),(21,.int .i64 (H.length:Nat)),(22,.int .i64 (x.1:Nat))],ownH x.2 (iO LV j.f j.m (pat j.e j.a) x.1)::bL p2 1 1 (fun _=>.one (.int .i64 0))::bL p1 1 1 (fun _=>.one (cN q))::mW q j r n rm dv hv D H false L ql la ln qp 4 0 rest,fs)) (fun x=>x.1≤H.length∧eQ x.2) (fun x=>H.length - x.1) rfl ?_ ?_
  ·refine bB (0,.slice none 0 0) ⟨Nat.zero_le _,eP⟩ trivial qF (dG _ _ 14 fun i=>fG (([]:List Ht).getD i ht0))
  rintro ⟨i,vo⟩ ⟨hi,hvo⟩
  simp only at hi hvo ⊢
  have hlh:=jK LV j.f j.m (pat j.e j.a) i
  refine Or.elim (Nat.lt_or_ge i H.length) (fun hil=>?_) (fun hil=>?_)
  ·have hsu:iO LV j.f j.m (pat j.e j.a) (i+1)=iO LV j.f j.m (pat j.e j.a) i++(if (LV j.f (pat j.e j.a+i) j.m).h then [⟨pat j.e j.a+i,LV j.f (pat j.e j.a+i) j.m⟩] else []):=rfl
   have hHi:=hHv i hil
   have hpp:pat j.e (j.a+i)=pat j.e j.a+i:=by unfold pat; omega
   have hpi:=nG (e:=j.e) (i:=j.a+i) hE qN
   have hP:=fun u=>pV u j (j.a+i) hE qN
   rw [hpp] at hpi hP
   have hRun:=hLo.run j.f (pat j.e j.a+i) j.m hF hpi.1 hpi.2 hM
   refine Exists.elim (show ∃ p,p=pat j.e j.a+i from ⟨_,rfl⟩) fun p hp=>?_
   rw [← hp] at hsu hpi hP hRun hHi
   refine Exists.elim (show ∃ Y,Y=LV j.f p j.m from ⟨_,rfl⟩) fun Y hY=>?_
   rw [← hY] at hsu hRun hHi
   clear hY hp hpp
   refine bG rfl qN ?_
   refine eM 5 rfl hh i rfl hil ?_
   refine Or.elim (Bool.eq_false_or_eq_true (H.getD i false)) (fun hb=>?_) (fun hb=>?_)
   ·refine gR (u:=.bool true) 5 rfl i hil (by show boE (H.getD i false)=_; rw [hb]; rfl) ?_
    rw [← hHi,hb,if_pos rfl] at hsu
    refine bC [0,1,2,3,4,5,6,7,8,9,10,11,12,13] [0,1,2,3,4,5,6,7,8,9,10,11,12,13] qK qK ?_
    refine aW (u:=cN q) (e:=fun _=>.one (cN q)) 2 rfl hp1 rfl ?_
    refine aF 3 rfl (aU q) ?_
    refine aK (d:=cO j) (e:=fun _=>faD j r dv hv false 1 (cN ql) (cN qp)) 3 rfl (aJ (aG _)) cZ fun u1=>?_
    refine aW (u:=cN q) (e:=fun _=>.one (cN q)) 2 rfl hp1 rfl ?_
    refine aF 3 rfl (aU q) ?_
    refine bM (aU q) ?_
    refine aB (u:=.int .u64 (j.a:Nat)) (e:=fun _=>faD j r dv hv false 1 (cN ql) (cN qp)) 3 rfl (aJ (aC (aC (aJ (aG _))))) ?_
    refine bJ ⟨_,Tryz.underlying3⟩ Tryz.underlying22 ((i:Nat):Int) (by rw [dA]; omega) ?_
    refine ar rfl ⟨by omega,by omega⟩ ?_
    rw [show ((j.a:Nat):Int)+(i:Nat)=((j.a+i:Nat):Int) by omega]
    refine bN (hP u1) (aT _ _) (aX (.head _) (bP _)) ?_
    rintro _ _ _ ⟨rfl,rfl,rfl⟩
    refine fN [0,1,2,3,4,5,6,7,8,9,10,11,12,13,14,15,16,17] [0,1,2,3,4,5,6,7,8,9,10,11,12,13,15,16,14,17] qK qK qK ?_
    refine aW (u:=cN q) (e:=fun _=>.one (cN q)) 2 rfl hp1 rfl ?_
    refine aF 3 rfl (aU q) ?_
    refine bM (aU q) ?_
    refine aB (u:=.int .i64 j.f) (e:=fun _=>faD j r dv hv false 1 (cN ql) (cN qp)) 3 rfl (aJ (aJ (aG _))) ?_
    refine aW (u:=cN q) (e:=fun _=>.one (cN q)) 2 rfl hp1 rfl ?_
    refine aF 3 rfl (aU q) ?_
    refine bM (aU q) ?_
    refine aB (u:=.int .i64 j.m) (e:=fun _=>faD j r dv hv false 1 (cN ql) (cN qp)) 3 rfl (aJ (aC (aC (aC (aC (aG _)))))) ?_
    refine bN hRun (aT _ _) (bP _) ?_
    rintro _ _ _ ⟨rfl,x1,rfl,rfl⟩
    refine aI (d:=fY pS) fun p3 hp3=>?_
    refine bY (d:=fY Y) 0 rfl hp3 rfl qK (aA (.head _)) ?_
    refine aE (d:=fY Y) 0 rfl hp3 rfl (oF _) fun u2=>?_
    refine dE [.one (.int .u64 (p:Nat)),fY Y] (by exact ⟨⟨aP rfl,rfl⟩,⟨aA (.head _),rfl⟩,trivial⟩) fun u3=>?_
    refine rG (size:=14) fG ht0 ⟨p,Y⟩ qE (aA (d:=fG ⟨p,Y⟩) (.head _)) rfl fun l1=>?_
    refine eU 1 rfl hvo (cI (.head _)) (by simp; omega) (by simp; omega) fun u4 hu4=>?_
    refine ar rfl qI ?_
    refine bB (i+1,u4) ⟨qO,hu4⟩ qO qF ?_
    rw [hsu]
    exact dS (aD qD)
   ·refine gR (u:=.bool false) 5 rfl i hil (by show boE (H.getD i false)=_; rw [hb]; rfl) ?_
    rw [← hHi,hb,if_neg qE,List.append_nil] at hsu
    refine ar rfl qI ?_
    refine bB (i+1,vo) ⟨qO,hvo⟩ qO qF ?_
    rw [hsu]
    exact aT _ _
  have hiH:i=H.length:=by omega
  refine aL rfl qN ?_
  refine bB (vo,p2,p1) ⟨hvo,hp2,hp1⟩ trivial qF ?_
  rw [hiH,hH]
  exact aT _ _
 rintro ⟨vo,p2,p1⟩ ⟨hvo,hp2,hp1⟩
 dsimp only at hvo hp2 hp1 ⊢
 generalize iO LV j.f j.m (pat j.e j.a) (j.b - j.a)=X at *
 refine kM (Y:=Value×Value×Value×Value) 2 (fun y=>([(1,y.2.2.1),(2,y.2.1),(9,y.1)],dkO r n (.map (some rm)) y.2.2.2::e9 jN z512 (.map (some rm)) L::kU 513 mM (0,z512) y.2.2.2 ([]++chW (bV B.length) (eC j) B)::bL y.2.1 1 1 (fun _=>.one (.int .i64 0))::bL y.2.2.1 1 1 (fun _=>.one (cN q))::faO q j r dv hv false 1 (cN ql) (cN qp)::qY dv D::qY hv H::jrO ql r la (6+(2*cA j+2)) 1 ln::jrO qp r 4 6 1 0::rest,(y.1,BD B)::fs)) (fun y=>g9 y.2.1∧g9 y.2.2.1∧eQ y.2.2.2) qK ?_ ?_
 ·refine aW (u:=cN q) (e:=fun _=>.one (cN q)) 2 rfl hp1 rfl ?_
  refine aF 3 rfl (aU q) ?_
  refine aK (d:=cO j) (e:=fun _=>faD j r dv hv false 1 (cN ql) (cN qp)) 3 rfl (aJ (aG _)) cZ fun u1=>?_
  refine bN (hcw u1 vo) (Seals.L (f:=fG) (z:=ht0) (size:=14) 0 rfl hvo) (aX (.tail _ (.head _)) (aX (.head _) (bP _))) ?_
  rintro _ _ _ ⟨rfl,x,rfl,rfl⟩
  refine aW (u:=cN q) (e:=fun _=>.one (cN q)) 1 rfl hp1 rfl ?_
  refine aF 2 rfl (aU q) ?_
  refine aK (d:=cO j) (e:=fun _=>faD j r dv hv false 1 (cN ql) (cN qp)) 2 rfl (aJ (aG _)) cZ fun u2=>?_
  refine bN (fRest u2 j h64 hab) (aT _ _) (aX (.head _) (bP _)) ?_
  rintro _ _ _ ⟨rfl,rfl,rfl⟩
  refine aI (d:=.one (.int .i64 0)) fun p3 hp3=>?_
  refine aH (d:=.one (.int .i64 (eC j:Nat))) 0 rfl hp3 rfl qK (aP rfl) ?_
  refine aL rfl qN ?_
  refine bC [0,1,2,3,4,5,6,7,8,10,9,11,12,13] [0,1,2,3,4,5,6,7,8,9,10,11,12,13] qK qK ?_
  refine aS (v:=x) (n:=B.length) (size:=1) (.tail _ (.head _)) fun _=>?_
  refine ar rfl qI ?_
  refine ar rfl qI ?_
  refine gH qN qN (by exact ⟨by omega,by omega⟩) ?_
  refine aW (u:=cN q) (e:=fun _=>.one (cN q)) 2 rfl hp1 rfl ?_
  refine aF 3 rfl (aU q) ?_
  refine aB (u:=cN r) (e:=fun _=>faD j r dv hv false 1 (cN ql) (cN qp)) 3 rfl (aC (aJ (aG _))) ?_
  refine aW (u:=.int .i64 (eC j:Nat)) (e:=fun _=>.one (.int .i64 (eC j:Nat))) 0 rfl hp3 rfl ?_
  refine qG (dSizeM r n (.map (some rm)) (.slice none 0 0)) (Seals.box 6 rfl (aU r) (d:=dkD n (.map (some rm)) (.slice none 0 0)) rfl) (aX (.head _) (bP _)) ?_
  rintro _ _ _ ⟨rfl,rfl,rfl⟩
  refine ar rfl qI ?_
  refine aL rfl qN ?_
  refine bN (bChunk x B) (aT _ _) (aX (.tail _ (.head _)) (bP _)) ?_
  rintro _ _ _ ⟨rfl,c1,c2,rfl,rfl⟩
  refine chunkB_go (X:=Value) (.slice none 0 0) (fun _ v=>eQ v) B (fun k v=>(bL p3 1 1 (fun _=>.one (.int .i64 ((eC j+k:Nat):Int)))::bL p2 1 1 (fun _=>.one (.int .i64 0))::bL p1 1 1 (fun _=>.one (cN q))::faO q j r dv hv false 1 (cN ql) (cN qp)::qY dv D::qY hv H::dkO r n (.map (some rm)) v::e9 jN z512 (.map (some rm)) L::kU 513 mM (0,z512) v ([]++chW k (eC j) B)::jrO ql r la (6+(2*cA j+2)) 1 ln::jrO qp r 4 6 1 0::rest,
   (c1,.ptr (BD B))::(c2,.ptr (.one (.int .i64 512)))::(x,BD B)::fs)) rfl (fun _ _ _=>.head _) (fun _ _ _=>.tail _ (.head _)) hBl eP (fun o=>?_) (fun v hv2=>?_) rfl rfl rfl ?_
  ·refine aM (dG _ _ 513 fun i=>mM (([]:List (Nat×List Nat)).getD i (0,z512))) (aM (bK (List.perm_middle (l₁:=[_,_,_,_,_,_,_,_,_])).symm) (aD (fun F hF=>?_)))
   rcases List.mem_cons.1 hF with rfl | hF
   ·exact .head _
   rcases List.mem_cons.1 hF with rfl | hF
   ·exact .tail _ (.head _)
   rcases List.mem_cons.1 hF with rfl | hF
   ·exact .tail _ (.tail _ (.tail _ (.head _)))
   ·repeat (first | exact hF | apply List.Mem.tail)
  ·refine bB (x,p2,p1,v) ⟨hp2,hp1,hv2⟩ trivial qF ?_
   refine dS (aM (bK (nC [_,_,_,_,_] [_,_,_] _)) (aD (fun F hF=>?_)))
   rcases List.mem_cons.1 hF with rfl | hF
   ·exact .tail _ (.tail _ (.head _))
   ·exact .tail _ (.tail _ (.tail _ hF))
  ·intro l Df fn tm k v fsx u hk hv2 hsub hu
   refine ⟨⟨0,rfl,?_⟩⟩
   have hch:=chW_succ k (eC j) B
   have hcl:=lB k (eC j) B
   have hck:(vG B k).length≤512:=by unfold vG; rw [List.length_take]; omega
   refine eT [0,1,2,3,4,5,6,7] qK ?_
   refine cX [] [] [] [6] [0,1,2,3,4,5,6,7] qK qK qK ?_
   refine aW (u:=cN q) (e:=fun _=>.one (cN q)) 3 rfl hp1 rfl ?_
   refine aF 4 rfl (aU q) ?_
   refine aB (u:=cN r) (e:=fun _=>faD j r dv hv false 1 (cN ql) (cN qp)) 4 rfl (aC (aJ (aG _))) ?_
   refine aW (u:=.int .i64 ((eC j+k:Nat):Int)) (e:=fun _=>.one (.int .i64 ((eC j+k:Nat):Int))) 1 rfl hp3 rfl ?_
   refine cM (bK (nC [_,_,_,_,_,_,_] [_,_,_] _)) ?_
   refine dWrite r n (.map (some rm)) v u L _ _ (eC j+k) qN hn (vG B k) hck hu hv2 (by rw [List.length_append,hcl,List.length_nil]; omega) fun v2 hv3=>?_
   refine aL rfl qN ?_
   refine aW (u:=.int .i64 ((eC j+k:Nat):Int)) (e:=fun _=>.one (.int .i64 ((eC j+k:Nat):Int))) 4 rfl hp3 rfl ?_
   refine ar rfl qI ?_
   refine aH (d:=.one (.int .i64 ((eC j+(k+1):Nat):Int))) 4 rfl hp3 rfl qK (aP rfl) ?_
   refine ⟨⟨3,rfl,.inl ⟨rfl,v2,hv3,?_⟩⟩⟩
   rw [List.append_assoc,show chW k (eC j) B++[(eC j+k,k6 (vG B k))]=chW (k+1) (eC j) B from hch.symm]
   refine aM (bK (nC [_,_,_] [_,_,_,_,_,_,_] _)) (aD (fun F hF=>hsub F hF))
 rintro ⟨x,p2,p1,v⟩ ⟨hp2,hp1,hv2⟩
 dsimp only at hp2 hp1 hv2 ⊢
 refine SemC.of qK ?_
 refine aW (u:=cN q) (e:=fun _=>.one (cN q)) 4 rfl hp1 rfl ?_
 refine aF 5 rfl (aU q) ?_
 refine aB (u:=cN r) (e:=fun _=>faD j r dv hv false 1 (cN ql) (cN qp)) 5 rfl (aC (aJ (aG _))) ?_
 refine tK r n rm v L _ _ hn hL (fun y hy=>sF (n:=n) hsz y hy) hv2 (by rw [List.nil_append,hcS]; omega) ?_
 rw [show fP L ([]++chW (bV B.length) (eC j) B)=pubL L (eC j) B from rfl]
 generalize pubL L (eC j) B=L2 at *
 refine aL rfl qN ?_
 refine aI (d:=lD (List.replicate 8 (.int .u8 0))) fun p4 hp4=>?_
 refine bD (X:=Nat) (fun i=>([(1,p1),(2,p2),(9,x),(15,p4),(118,.int .i64 (i:Nat))],bL p4 8 1 (fun _=>lD (u8s (got8 B.length i)))::dkO r n (.map (some rm)) (.slice none 0 0)::e9 jN z512 (.map (some rm)) L2::bL p2 1 1 (fun _=>.one (.int .i64 0))::bL p1 1 1 (fun _=>.one (cN q))::faO q j r dv hv false 1 (cN ql) (cN qp)::qY dv D::qY hv H::jrO ql r la (6+(2*cA j+2)) 1 ln::jrO qp r 4 6 1 0::rest,(x,BD B)::fs)) (fun i=>i≤8) (fun i=>8 - i) rfl ?_ ?_
 ·exact bB 0 (Nat.zero_le _) trivial qF (aV 3 _ _)
 intro i hi
 replace hi:i≤8:=hi
 have hgl:=got8_len B.length i hi
 refine aO _ rfl (fun hlt=>?_) (fun hlt=>?_)
 ·have hi8:i<8:=by omega
  have hsu:=got8_succ B.length i hi8
  refine aS (v:=x) (n:=B.length) (size:=1) (.head _) fun _=>?_
  refine ar rfl qI ?_
  refine dJ B.length (8*i) (2^(8*i)) rfl qN rfl (by show 8*i≤64; omega) ?_
  refine bJ ⟨_,Tryz.underlying3⟩ Tryz.underlying5 _ (lT _) ?_
  refine fU (z:=.int .u8 0) hp4 i rfl hi8 qE ?_
  refine cP 0 rfl hp4 (rep_arr (x:=.int .u8 _) (by rw [lV]; omega)) (aP rfl) ?_ (hs:=by show 8=(lD (u8s (got8 B.length i))).cells; rw [lQ (by intro e; have:=congrArg List.length e; rw [lV,hgl] at this; simp at this),lV,hgl])
  rw [u8s_set,hsu]
  refine ar rfl qI ?_
  exact bB (i+1) qO qO qF (aT _ _)
 ·obtain rfl:i=8:=by omega
  have hg8:got8 B.length 8=leN B.length 8:=by simp [got8]
  rw [hg8] at hgl ⊢
  have hs8:bV (leN B.length 8).length=1:=by rw [hgl]; rfl
  have hb8:Byt (leN B.length 8):=iB _ _
  refine eT [0,1,2,3,4,5,6] qK ?_
  refine cX [] [] [] [5] [0,1,2,3,4,5,6] qK qK qK ?_
  refine aW (u:=cN q) (e:=fun _=>.one (cN q)) 4 rfl hp1 rfl ?_
  refine aF 5 rfl (aU q) ?_
  refine aB (u:=cN qp) (e:=fun _=>faD j r dv hv false 1 (cN ql) (cN qp)) 5 rfl (aC (aC (aC (aC (aC (aC (aC (aC (aG _))))))))) ?_
  refine slice_arr0 (z:=.int .u8 0) hp4 ?_
  refine cM (aM (seals_arr (vs:=u8s (leN B.length 8)) 0 rfl hp4 rfl (by rw [lV,hgl]) qE qE) (aM (Seals.add (knw_arr hgl (.head _))) (bK (List.Perm.cons _ (List.Perm.cons _ (List.perm_middle (l₁:=[_,_,_,_,_,_]))))))) ?_
  refine wAppend qp r n rm 4 6 1 0 L2 (arrS p4 8) _ (leN B.length 8) qN h6 hn hP1 qN (.head _) hb8 qN qN qN ?_
  rw [hs8]
  refine aW (u:=cN q) (e:=fun _=>.one (cN q)) 4 rfl hp1 rfl ?_
  refine bG rfl qN ?_
  refine aF 5 rfl (aU q) ?_
  refine cP (e:=fun _=>faD j r dv hv false 1 (cN ql) (cN qp)) 5 rfl (aU q) (Rep.rk (Rep.rk (Rep.rk (Rep.rk (Rep.left (cD (n:=.one (.bool true)) rfl)) rfl) rfl) rfl) rfl) (aP rfl) ?_
  refine aH (d:=.one (.int .i64 0)) 3 rfl hp2 rfl qK (aP rfl) ?_
  refine aW (u:=.int .i64 0) (e:=fun _=>.one (.int .i64 0)) 3 rfl hp2 rfl ?_
  refine fin kk (aM (aV 3 _ _) (aM (aV 3 _ _) (aM (bK ((nC [_,_,_] [_,_,_] _).trans (.cons _ (.cons _ (.cons _ (.cons _ (.cons _ (.swap _ _ _)))))))) (aD qD))))
theorem hardU_get (LV:Int→Nat→Int→Lk7) (f m:Int) (p:Nat) (t:Nat) (ht:t<4):∀ n,(sR LV f m p n).getD t false=(decide (t<n)&&(LV f (p+t) m).h)
 | 0=>by
  simp only [Nat.not_lt_zero,decide_false,Bool.false_and]
  unfold sR noT
  rw [gE,List.getElem?_replicate]
  split <;> rfl
 | n+1=>by
  have ih:=hardU_get LV f m p t ht n
  have hl:=pX LV f m p n
  unfold sR
  rcases Nat.lt_trichotomy t n with h | h | h
  ·split
   ·rw [gE,List.getElem?_set_ne qN,← gE,ih]
    simp [h,Nat.lt_succ_of_lt h]
   ·rw [ih]; simp [h,Nat.lt_succ_of_lt h]
  ·subst h
   split
   ·rename_i hh
    rw [gE,List.getElem?_set_self qN]
    simp [hh]
   ·rename_i hh
    rw [ih]; simp [hh]
  ·split
   ·rw [gE,List.getElem?_set_ne qN,← gE,ih]
    simp [show ¬ t<n by omega,show ¬ t<n+1 by omega]
   ·rw [ih]; simp [show ¬ t<n by omega,show ¬ t<n+1 by omega]
theorem copyV_get {H M:List Bool} {lo k:Nat} (hlo:lo≤H.length):(rN H M lo).getD k false=if lo≤k∧k<lo+min M.length (H.length - lo) then M.getD (k - lo) false else H.getD k false:=by
 unfold rN
 generalize hc:min M.length (H.length - lo)=c
 have hx:(M.take c).length=c:=by simp; omega
 have h:=seg_getA H (M.take c) lo k (by rw [hx]; omega)
 rw [hx] at h
 rw [gE,h]
 split
 ·rename_i h1
  rw [List.getElem?_take_of_lt qN,gE]
 ·rw [gE]
structure FInv (LV:Int→Nat→Int→Lk7) (j:Jb) (D H:List Bool):Prop where
 d:D.length=cA j
 h:H.length=j.b - j.a
 v:∀ k,k<j.b - j.a→H.getD k false=(D.getD (k/4) false&&(LV j.f (pat j.e j.a+k) j.m).h)
theorem FInv.zero {LV:Int→Nat→Int→Lk7} {j:Jb}:FInv LV j (noT (cA j)) (noT (j.b - j.a)) :=
 ⟨by simp [noT],by simp [noT],fun k hk=>by simp [noT,gE,hk,List.getElem?_replicate]; split <;> simp⟩
theorem FInv.unit {LV:Int→Nat→Int→Lk7} {j:Jb} {D H:List Bool} (h:FInv LV j D H) {i:Nat} (hi:i<cA j):FInv LV j (D.set i true) (rN H (tT LV j i) (4*i)):=by
 have hul:(tT LV j i).length=4:=pX ..
 have hd:=h.d
 have hh:=h.h
 have hun:4*i<j.b - j.a:=by unfold cA at hi; omega
 refine ⟨by rw [List.length_set]; exact h.d,by rw [pZ _ _ _ qN]; exact h.h,fun k hk=>?_⟩
 have hv:=h.v k hk
 rw [copyV_get qN,hul]
 by_cases hc:4*i≤k∧k<4*i+min 4 (H.length - 4*i)
 ·rw [if_pos hc]
  have hki:k/4=i:=by omega
  have e1:(D.set i true).getD (k/4) false=true:=by rw [hki,gE,List.getElem?_set_self qN]; rfl
  have e2:pat j.e (j.a+4*i)+(k - 4*i)=pat j.e j.a+k:=by unfold pat; omega
  rw [e1,Bool.true_and,show tT LV j i=sR LV j.f j.m (pat j.e (j.a+4*i)) (min (j.b - (j.a+4*i)) 4) from rfl,hardU_get _ _ _ _ _ qN,e2,decide_eq_true qN,Bool.true_and]
 ·rw [if_neg hc]
  have hki:k/4≠i:=by omega
  rw [hv,gE (l:=D.set i true),List.getElem?_set_ne qN,← gE]
def eX (D:List Bool):Nat→List Nat
 | 0=>[]
 | k+1=>eX D k++(if D.getD k false then [] else [k])
theorem openU_len (D:List Bool):∀ k,(eX D k).length≤k
 | 0=>Nat.le_refl _
 | k+1=>by
  have:=openU_len D k
  simp only [eX,List.length_append]
  split <;> simp <;> omega
theorem uH (D:List Bool):∀ k i,i∈eX D k↔i<k∧D.getD i false=false
 | 0,i=>by simp [eX]
 | k+1,i=>by
  have ih:=uH D k i
  simp only [eX,List.mem_append,ih]
  constructor
  ·rintro (h | h)
   ·exact ⟨by omega,h.2⟩
   ·split at h
    ·cases h
    ·rename_i hq
     rw [List.mem_singleton.1 h]
     exact ⟨by omega,by simpa using hq⟩
  ·rintro ⟨h1,h2⟩
   rcases Nat.lt_or_ge i k with h | h
   ·exact .inl ⟨h,h2⟩
   ·obtain rfl:i=k:=by omega
    right; rw [h2]; simp
def mU (D:List Bool) (k:Nat):Nat:=(eX D D.length).getD ((k%(eX D D.length).length+(eX D D.length).length)%(eX D D.length).length) 0
theorem pickU_ok {D:List Bool} {k:Nat} (h:0<(eX D D.length).length):mU D k<D.length∧D.getD (mU D k) false=false:=by
 have h1:mU D k∈eX D D.length:=eZ 0 (Nat.mod_lt _ h)
 exact (uH D D.length _).1 h1
set_option maxHeartbeats 4000000 in
theorem fStep {LV:Int→Nat→Int→Lk7} (hLo:mP LV) {fs:List bA} {K:cE} (q:Nat) (j:Jb) (hj:j.ok) (r n rm:Nat) (dv hv:Value) (D H:List Bool) (L:List (Nat×List Nat)) (ql la ln qp:Nat) (rest:List Own) (k:Nat)
  (hd:eQ dv) (hh:eQ hv) (hI:FInv LV j D H) (hu:cA j≤200) (hk:k≤100000) (hn:n≤4096) (hL:DkOk n L) (hlen:L.length≤20000) (hln:ln≤100000)
  (B:List Nat) (hBc:B=qB j (iO LV j.f j.m (pat j.e j.a) (j.b - j.a))) (hBl:B.length≤1000000) (hC:qX (iO LV j.f j.m (pat j.e j.a) (j.b - j.a))) (hsz:eC j+bV B.length≤n)
  (k1:0<(eX D D.length).length→la+2≤6+(2*cA j+2)∧K (.tuple #[.int .i64 1,.int .i64 0]) (mW q j r n rm dv hv (D.set (mU D k) true) (rN H (tT LV j (mU D k)) (4*mU D k)) false (vW L la (6+(2*cA j+2)) 1 ln (recB LV j (mU D k))) ql (la+2) (ln+1) qp 4 0 rest) fs)
  (k2:eX D D.length=[]→K (.tuple #[.int .i64 2,.int .i64 0]) (mW q j r n rm dv hv D H true (vW (pubL L (eC j) B) 4 6 1 0 (leN B.length 8)) ql la ln qp 6 1 rest) fs) :
  CallK Tryz.prog false (.func (.func 26) #[] #[]) [cN q,.int .i64 (k:Nat)] (mW q j r n rm dv hv D H false L ql la ln qp 4 0 rest) fs K:=by
 have hDl:=hI.d
 have hrv:eC j=6+(2*cA j+2):=rfl
 refine bX (args:=[cN q,.int .i64 (k:Nat)]) (caps:=[]) Tryz.func26 qK rfl qK (Nat.le_of_ble_eq_true rfl) ?_
 refine aF 0 rfl (aU q) ?_
 refine aB (u:=.bool false) (e:=fun _=>faD j r dv hv false 1 (cN ql) (cN qp)) 0 rfl (aC (aC (aC (aC (aC (aJ (aG _))))))) ?_
 refine aF 0 rfl (aU q) ?_
 refine aB (u:=.bool false) (e:=fun _=>faD j r dv hv false 1 (cN ql) (cN qp)) 0 rfl (aC (aC (aC (aC (aJ (aG _)))))) ?_
 refine aF 0 rfl (aU q) ?_
 refine aB (u:=dv) (e:=fun _=>faD j r dv hv false 1 (cN ql) (cN qp)) 0 rfl (aC (aC (aJ (aG _)))) ?_
 refine nN 1 rfl hd fun _=>?_
 refine bD (X:=Nat×Value) (fun x=>([(0,cN q),(1,.int .i64 (k:Nat)),(6,x.2),(25,dv),(26,.int .i64 (D.length:Nat)),(27,.int .i64 (x.1:Nat))],
  (if x.1<D.length then kU 1 i64N 0 x.2 (eX D x.1)::mW q j r n rm dv hv D H false L ql la ln qp 4 0 rest else mW q j r n rm dv hv D H false L ql la ln qp 4 0 rest),
  (if x.1<D.length then fs else (x.2,LD 1 i64N 0 (eX D x.1))::fs))) (fun x=>x.1≤D.length∧eQ x.2) (fun x=>D.length - x.1) rfl ?_ ?_
 ·refine bB (0,.slice none 0 0) ⟨Nat.zero_le _,eP⟩ trivial qF ?_
  refine Or.elim (Nat.lt_or_ge 0 D.length) (fun h=>?_) (fun h=>?_)
  ·simp only [if_pos h]
   exact dG _ _ 1 fun i=>i64N (([]:List Nat).getD i 0)
  ·simp only [if_neg (Nat.not_lt.2 h)]
   exact Seals.add (Knw.nil 1 _)
 rintro ⟨i,vo⟩ ⟨hi,hvo⟩
 simp only at hi hvo ⊢
 have hol:=openU_len D i
 refine Or.elim (Nat.lt_or_ge i D.length) (fun h=>?_) (fun h=>?_)
 ·rw [if_pos h,if_pos h]
  have hsu:eX D (i+1)=eX D i++(if D.getD i false then [] else [i]):=rfl
  refine bG rfl qN ?_
  refine eM 2 rfl hd i rfl h ?_
  have hfin:∀ (u:Value) (fs':List bA),eQ u→(∀ F∈fs,F∈fs')→Seals (kU 1 i64N 0 u (eX D (i+1))::mW q j r n rm dv hv D H false L ql la ln qp 4 0 rest) fs' (if i+1<D.length then kU 1 i64N 0 u (eX D (i+1))::mW q j r n rm dv hv D H false L ql la ln qp 4 0 rest else mW q j r n rm dv hv D H false L ql la ln qp 4 0 rest)
    (if i+1<D.length then fs else (u,LD 1 i64N 0 (eX D (i+1)))::fs):=fun u fs' hu hs=>by
   by_cases h2:i+1<D.length
   ·rw [if_pos h2,if_pos h2]; exact aD fun F hF=>hs F hF
   ·rw [if_neg h2,if_neg h2]
    exact aM (aD fun F hF=>hs F hF) (Seals.L (f:=i64N) (z:=0) (size:=1) 0 rfl hu)
  refine Or.elim (Bool.eq_false_or_eq_true (D.getD i false)) (fun hb=>?_) (fun hb=>?_)
  ·refine gR (u:=.bool true) 2 rfl i h (by show boE (D.getD i false)=_; rw [hb]; rfl) ?_
   rw [hb,if_pos rfl,List.append_nil] at hsu
   rw [hsu] at hfin
   refine ar rfl qI ?_
   refine bB (i+1,vo) ⟨qO,hvo⟩ qO qF ?_
   simp only [hsu]
   exact hfin vo fs hvo fun F hF=>hF
  ·refine gR (u:=.bool false) 2 rfl i h (by show boE (D.getD i false)=_; rw [hb]; rfl) ?_
   rw [hb,if_neg qE] at hsu
   rw [hsu] at hfin
   refine rG (size:=1) i64N 0 i qE (aP rfl) rfl fun l1=>?_
   refine eU 0 rfl hvo (cI (.head _)) (by simp; omega) (by simp; omega) fun u4 hu4=>?_
   refine ar rfl qI ?_
   refine bB (i+1,u4) ⟨qO,hu4⟩ qO qF ?_
   simp only [hsu]
   exact hfin u4 _ hu4 fun F hF=>.tail _ hF
 rw [if_neg (Nat.not_lt.2 h),if_neg (Nat.not_lt.2 h)]
 refine aL rfl qN ?_
 have hiD:i=D.length:=by omega
 rw [hiD]
 rw [hiD] at hol
 have hpk:=pickU_ok (D:=D) (k:=k)
 have hpu:mU D k=(eX D D.length).getD ((k%(eX D D.length).length+(eX D D.length).length)%(eX D D.length).length) 0:=rfl
 refine aS (v:=vo) (n:=(eX D D.length).length) (size:=1) (.head _) fun _=>?_
 refine aO (((eX D D.length).length:Nat) > (0:Int)) rfl (fun hgt=>?_) (fun hgt=>?_)
 ·have h0:0<(eX D D.length).length:=by omega
  obtain ⟨hroom,kk⟩:=k1 h0
  obtain ⟨hp1,_⟩:=hpk h0
  have hml:=Nat.mod_lt (k%(eX D D.length).length+(eX D D.length).length) h0
  have hmk:k%(eX D D.length).length≤k:=Nat.mod_le _ _
  refine sZ qN qN ?_
  refine ar rfl qI ?_
  refine sZ qN qN ?_
  refine aZ (v:=vo) (n:=(eX D D.length).length) (size:=1) (el:=fun t=>i64N ((eX D D.length).getD t 0)) (.head _) ((k%(eX D D.length).length+(eX D D.length).length)%(eX D D.length).length) rfl hml fun a1=>?_
  refine bF (u:=.int .i64 (mU D k:Nat)) (by rw [hpu]; exact .head _) ?_
  refine fUnit hLo q j hj r n rm dv hv D H L ql la ln qp 4 0 rest (mU D k) hd hh hDl hI.h qN qN hroom qN hn hL qN hln ?_
  refine fOver q j r dv hv false 1 (cN ql) (cN qp) _ ?_
  refine aL rfl qN ?_
  exact fin kk (aD qD)
 ·have h0:eX D D.length=[]:=List.eq_nil_of_length_eq_zero qN
  have hall:∀ t,t<H.length→H.getD t false=(LV j.f (pat j.e j.a+t) j.m).h:=fun t ht=>by
   rw [hI.h] at ht
   have hdt:D.getD (t/4) false=true:=by
    have h1:t/4<D.length:=by rw [hDl]; unfold cA; omega
    rcases Bool.eq_false_or_eq_true (D.getD (t/4) false) with h2 | h2
    ·exact h2
    ·have:=(uH D D.length (t/4)).2 ⟨h1,h2⟩
     rw [h0] at this; cases this
   rw [hI.v t ht,hdt,Bool.true_and]
  refine fPublish hLo q j hj r n rm dv hv D H L ql la ln qp rest hh hI.h hall hC B hBc hBl hsz hn qN hL hlen ?_
  refine fOver q j r dv hv true 1 (cN ql) (cN qp) _ ?_
  refine aL rfl qN ?_
  exact fin (k2 h0) (aD qD)
set_option maxHeartbeats 2000000 in
theorem fCert {fs:List bA} {K:cE} (r n rm:Nat) (j:Jb) (hj:j.ok) (L:List (Nat×List Nat)) (rest:List Own) (S:List Nat) (m:Nat) (hn:n≤4096) (h6:6≤n) (hL:DkOk n L) (hB:DkB L)
  (h0:genV L 0=0) (h2:genV L 2=1) (hS:gN L 2 t8 1 0 512=some S) (hS48:48≤S.length) (hSj:S.take 48=gL j) (hp:openV L 4 2 1=(6,1,[leN m 8])) (hm:m≤1000000) (hm1:eC j+bV m≤n)
  (kk:∀ x,K (.tuple #[x,.int .i64 0]) (dkC r n rm L rest) ((x,BD (getV L (eC j) m))::fs)) :
  CallK Tryz.prog false (.func (.func 27) #[] #[]) [cN r] (dkC r n rm L rest) fs K:=by
 have hab:=hj.ab
 have h64:=hj.in64
 have hrv:eC j=6+(2*cA j+2):=rfl
 have hSl:S.length≤512:=vS hL hS
 have hlev:leV (leN m 8)=m:=by rw [rH,show (256:Nat)^8=18446744073709551616 by decide]; omega
 have hlen8:(leN m 8).length=8:=dO m 8
 have hb8:Byt (leN m 8):=iB m 8
 have hsv:bV m=(m+511)/512:=rfl
 have hgv:getV L (eC j) m=(getA L (eC j) (bV m)).take m:=rfl
 refine bX (args:=[cN r]) (caps:=[]) Tryz.func27 qK rfl qK (Nat.le_of_ble_eq_true rfl) ?_
 refine dDown' r n _ _ _ ?_
 refine dSize r n _ _ _ ?_
 refine aL rfl qN ?_
 refine wLoad1 r n rm L rest S hn qN hL hB h0 h2 hS fun s1=>?_
 refine aS (v:=s1) (n:=S.length) (size:=1) (.head _) fun _=>?_
 refine aL rfl qN ?_
 refine eV (v:=s1) (l:=S) (.head _) 0 48 _ _ (kl:=.i64) (kh:=.i64) (.inl ⟨rfl,rfl⟩) (.inr rfl) (Nat.zero_le _) hS48 fun s2=>?_
 rw [List.drop_zero,hSj]
 refine bN (jRead s2 j hj) (aT _ _) (aX (.head _) (bP _)) ?_
 rintro _ _ _ ⟨rfl,x1,rfl,rfl⟩
 refine aI (d:=cO ⟨0,0,0,0,0⟩) fun p1 hp1=>?_
 refine aH (d:=cO j) 0 rfl hp1 rfl qK (aA (d:=cO j) (.head _)) ?_
 refine cM (bK (nC [_] [_,_] rest)) ?_
 refine wOpen r n rm L _ 4 2 1 qN hn hL hB qN fun q v2=>?_
 rw [hp]
 refine aL rfl qN ?_
 refine aS (v:=v2) (n:=[leN m 8].length) (size:=1) (.head _) fun _=>?_
 refine aL rfl (by show ¬ ((1:Nat):Int)=0; omega) ?_
 refine aZ (v:=v2) (n:=[leN m 8].length) (size:=1) (el:=fun t=>BD ([leN m 8].getD t [])) (.head _) 0 rfl (by show 0<1; decide) fun a1=>?_
 refine cS (d:=BD (leN m 8)) (.head _) (nM _) fun u1=>?_
 refine aS (v:=u1) (n:=(leN m 8).length) (size:=1) (.head _) fun _=>?_
 refine aL rfl qN ?_
 refine aZ (v:=v2) (n:=[leN m 8].length) (size:=1) (el:=fun t=>BD ([leN m 8].getD t [])) (.tail _ (.tail _ (.head _))) 0 rfl (by show 0<1; decide) fun a2=>?_
 refine cS (d:=BD (leN m 8)) (.head _) (nM _) fun u2=>?_
 refine aS (v:=u2) (n:=(leN m 8).length) (size:=1) (.head _) fun _=>?_
 rw [hlen8]
 refine bD (X:=Nat) (fun i=>([(0,cN r),(7,p1),(12,.int .u64 (leV ((leN m 8).take i):Nat)),(63,u2),(64,.int .i64 ((8:Nat):Int)),(65,.int .i64 (i:Nat))],dkC r n rm L (bL p1 5 1 (fun _=>cO j)::rest),(u2,BD (leN m 8))::fs)) (fun i=>i≤8) (fun i=>8 - i) rfl ?_ ?_
 ·refine bB 0 (Nat.zero_le _) trivial qF (aM (aV 2 _ _) (aD (fun F hF=>?_)))
  rcases List.mem_cons.1 hF with rfl | hF
  ·exact .head _
  ·repeat (first | exact hF | apply List.Mem.tail)
 ·intro i hi
  replace hi:i≤8:=hi
  refine aO _ rfl (fun hlt=>?_) (fun hlt=>?_)
  ·have hi8:i<8:=by omega
   have hil:i<(leN m 8).length:=by omega
   have hc:(leN m 8).getD i 0<256:=hb8 _ (eZ 0 hil)
   have hs:leV ((leN m 8).take i)<2^(8*i):=by
    have:=leV_lt (l:=(leN m 8).take i) fun n hn=>hb8 n (List.mem_of_mem_take hn)
    rwa [List.length_take,Nat.min_eq_left qN,show (256:Nat)=2^8 from rfl,← Nat.pow_mul] at this
   have hsu:=leV_take hil
   refine aZ (v:=u2) (n:=(leN m 8).length) (size:=1) (el:=fun t=>by8 ((leN m 8).getD t 0)) (.head _) i rfl hil fun a1=>?_
   refine bF (u:=.int .u8 ((leN m 8).getD i 0:Nat)) (.head _) ?_
   generalize (leN m 8).getD i 0=c at *
   generalize leV ((leN m 8).take i)=h at *
   have hp:2^(8*i)*256≤18446744073709551616:=by
    have:2^(8*i)*2^8≤2^64:=by rw [← Nat.pow_add]; exact Nat.pow_le_pow_right qE qN
    simpa using this
   have hcp:c*2^(8*i)+2^(8*i)≤18446744073709551616:=by
    have:(c+1)*2^(8*i)≤256*2^(8*i):=Nat.mul_le_mul_right _ qN
    rw [Nat.add_mul,Nat.one_mul,Nat.mul_comm 256] at this
    omega
   have hor:h ||| c*2^(8*i)=h+c*2^(8*i):=by
    rw [Nat.or_comm,Nat.mul_comm c,← Nat.two_pow_add_eq_or_of_lt hs,Nat.add_comm]
   refine bJ ⟨_,Tryz.underlying5⟩ Tryz.underlying22 ((c:Nat):Int) (by rw [dA]; omega) ?_
   refine ar rfl qI ?_
   refine jF c (8*i) rfl qN qN ?_
   generalize 2^(8*i)=w at *
   rw [Nat.mod_eq_of_lt qN]
   refine nI h (c*w) rfl rfl qN qN ?_
   rw [hor,← hsu]
   refine ar rfl qI ?_
   exact bB (i+1) qO qO qF (aD (fun F hF=>.tail _ hF))
  ·obtain rfl:i=8:=by omega
   rw [List.take_of_length_le qN,hlev]
   refine aE (d:=cO j) 2 rfl hp1 rfl cZ fun u3=>?_
   refine bN (fRest u3 j h64 hab) (aT _ _) (aX (.head _) (bP _)) ?_
   rintro _ _ _ ⟨rfl,rfl,rfl⟩
   refine dSize r n _ _ _ ?_
   refine ar rfl qI ?_
   refine nK ?_
   rw [show max (0:Int) ((n:Nat) - (eC j:Nat))=((n - eC j:Nat):Int) by omega]
   refine bJ ⟨_,Tryz.underlying3⟩ Tryz.underlying22 ((n - eC j:Nat):Int) (by rw [dA]; omega) ?_
   refine ar rfl qI ?_
   refine aL rfl qN ?_
   have hnil:Seals (dkC r n rm L (bL p1 5 1 (fun _=>cO j)::rest)) fs (dkO r n (.map (some rm)) (.slice none 0 0)::e9 jN z512 (.map (some rm)) L::kN (.slice none 0 0) []::rest) fs :=
    aM (aV 2 _ _) (aM (dG _ _ 1 fun i=>by8 (([]:List Nat).getD i 0)) (bK (nD _ _ _ _)))
   have hgo:∀ v l,eQ v→Seals (dkO r n (.map (some rm)) (.slice none 0 0)::e9 jN z512 (.map (some rm)) L::kN v l::rest) fs (dkO r n (.map (some rm)) (.slice none 0 0)::e9 jN z512 (.map (some rm)) L::rest) ((v,BD l)::fs) :=
    fun v l hv=>Seals.B 2 rfl hv
   generalize hT:bV m=T at *
   refine bD (X:=Nat×Value) (fun x=>([(0,cN r),(12,.int .u64 (m:Nat)),(15,.int .i64 ((eC j+x.1:Nat):Int)),(16,x.2)],
    (if x.1<T then dkO r n (.map (some rm)) (.slice none 0 0)::e9 jN z512 (.map (some rm)) L::kN x.2 (getA L (eC j) x.1)::rest else dkO r n (.map (some rm)) (.slice none 0 0)::e9 jN z512 (.map (some rm)) L::rest),
    (if x.1<T then fs else (x.2,BD (getA L (eC j) x.1))::fs))) (fun x=>x.1≤T∧eQ x.2) (fun x=>T - x.1) rfl ?_ ?_
   ·refine bB (0,.slice none 0 0) ⟨Nat.zero_le _,eP⟩ trivial qF ?_
    refine aM (aD (fs':=fs) qD) ?_
    rcases Nat.lt_or_ge 0 T with h | h
    ·simp only [if_pos h]
     exact hnil
    ·simp only [if_neg (Nat.not_lt.2 h)]
     exact aM hnil (hgo _ _ eP)
   rintro ⟨i,vo⟩ ⟨hi,hvo⟩
   simp only at hi hvo ⊢
   have hg:=tJ hL (eC j) i
   rcases Nat.lt_or_ge i T with h | h
   ·rw [if_pos h,if_pos h]
    refine nN 2 rfl hvo fun _=>?_
    rw [hg]
    refine bJ ⟨_,Tryz.underlying3⟩ Tryz.underlying22 ((512*i:Nat):Int) (by rw [dA]; omega) ?_
    refine bG rfl qN ?_
    have hsu:=nQ L (eC j) i
    refine dRead r n rm L _ (eC j+i) qN hn hL fun x=>?_
    have hl:=hL.len (eC j+i)
    generalize lkN z512 L (eC j+i)=s at *
    refine eU 2 rfl hvo (cI (.head _)) qN qN fun vo2 hvo2=>?_
    refine ar rfl qI ?_
    refine bB (i+1,vo2) ⟨qO,hvo2⟩ qO qF ?_
    rcases Nat.lt_or_ge (i+1) T with h | h
    ·simp only [if_pos h,hsu]
     exact aD (fun F hF=>.tail _ hF)
    ·simp only [if_neg (Nat.not_lt.2 h),hsu]
     exact aM (aD (fun F hF=>.tail _ hF)) (hgo _ _ hvo2)
   ·rw [if_neg (Nat.not_lt.2 h),if_neg (Nat.not_lt.2 h)]
    obtain rfl:i=T:=by omega
    refine aS (v:=vo) (n:=(getA L (eC j) i).length) (size:=1) (.head _) fun _=>?_
    rw [hg]
    refine bJ ⟨_,Tryz.underlying3⟩ Tryz.underlying22 ((512*i:Nat):Int) (by rw [dA]; omega) ?_
    refine aL rfl qN ?_
    refine eV (v:=vo) (l:=getA L (eC j) i) (.head _) 0 m _ _ (kl:=.i64) (kh:=.u64) (.inl ⟨rfl,rfl⟩) (.inr rfl) (Nat.zero_le _) qN fun u=>?_
    rw [List.drop_zero,← hgv]
    exact fin (kk u) (aD (fun F hF=>by
     rcases List.mem_cons.1 hF with rfl | hF
     ·exact .head _
     ·exact .tail _ (.tail _ hF)))
def rdO (r:Nat) (l:List Nat):Own:=bL (cN r) 1 1 (fun _=>BD l)
theorem rNumber {fs:List bA} {K:cE} (r:Nat) (l:List Nat) (rest:List Own) (k:Nat) (hk1:0<k) (hk:k≤8) (hl:k≤l.length) (hb:Byt l)
  (kk:K (.int .u64 (leV (l.take k):Nat)) (rdO r (l.drop k)::rest) fs) :
  CallK Tryz.prog false (.func (.func 18) #[] #[]) [cN r,.int .i64 (k:Nat)] (rdO r l::rest) fs K:=by
 refine bX (args:=[cN r,.int .i64 (k:Nat)]) (caps:=[]) Tryz.func18 qK rfl qK (Nat.le_of_ble_eq_true rfl) ?_
 refine aF 0 rfl (aU r) ?_
 refine aK (d:=BD l) (e:=fun _=>BD l) 0 rfl (aG _) (nM _) fun u1=>?_
 refine aS (v:=u1) (n:=l.length) (size:=1) (.head _) fun _=>?_
 refine aL rfl qN ?_
 refine aI (d:=.one (.int .u64 0)) fun p1 hp1=>?_
 refine aH (d:=.one (.int .u64 0)) 0 rfl hp1 rfl qK (aP rfl) ?_
 refine aF 1 rfl (aU r) ?_
 refine aK (d:=BD l) (e:=fun _=>BD l) 1 rfl (aG _) (nM _) fun u2=>?_
 refine eV (v:=u2) (l:=l) (.head _) 0 k _ _ (kl:=.i64) (kh:=.i64) (.inl ⟨rfl,rfl⟩) (.inr rfl) (Nat.zero_le _) hl fun u3=>?_
 rw [List.drop_zero]
 have hbl:(l.take k).length=k:=by rw [List.length_take]; omega
 have hbt:Byt (l.take k):=fun n hn=>hb n (List.mem_of_mem_take hn)
 generalize hbb:l.take k=b at *
 refine bN (bBackward u3 b) (aT _ _) (aX (.head _) (bP _)) ?_
 rintro _ _ _ ⟨rfl,p4,rfl,rfl⟩
 refine backB_go b (fun t=>(bL p1 1 1 (fun _=>.one (.int .u64 (leV (b.drop (k - t)):Nat)))::rdO r l::rest,(p4,.ptr (BD b))::fs)) rfl (fun _ _=>.head _) qN (fun o=>?_) ?_ rfl rfl rfl ?_
 ·simp only [Nat.sub_zero]
  rw [show b.drop k=[] from List.drop_eq_nil_of_le qN,show leV []=0 from rfl]
  refine aD (fun F hF=>?_)
  rcases List.mem_cons.1 hF with rfl | hF
  ·exact .head _
  ·repeat (first | exact hF | apply List.Mem.tail)
 ·simp only [hbl,Nat.sub_self,List.drop_zero]
  refine aF 1 rfl (aU r) ?_
  refine aK (d:=BD l) (e:=fun _=>BD l) 1 rfl (aG _) (nM _) fun u4=>?_
  refine eV (v:=u4) (l:=l) (.head _) k l.length _ _ (kl:=.i64) (kh:=.i64) (.inr rfl) (.inl ⟨rfl,rfl⟩) hl (Nat.le_refl _) fun u5=>?_
  rw [List.take_length]
  refine aF 1 rfl (aU r) ?_
  refine cP (e:=fun _=>BD l) (x:=u5) 1 rfl (aU r) (cD (n:=BD (l.drop k)) rfl) (aA (.head _)) ?_
  refine aW (u:=.int .u64 (leV b:Nat)) (e:=fun _=>.one (.int .u64 (leV b:Nat))) 0 rfl hp1 rfl ?_
  exact fin kk (dS (aD qD))
 ·intro rl Df fn tm t fsx ht hfs
  refine ⟨⟨0,rfl,?_⟩⟩
  have hdr:=drop_get (l:=b) (i:=b.length - 1 - t) qN
  have hc:b.getD (b.length - 1 - t) 0<256:=hbt _ (eZ 0 qN)
  have hak:leV (b.drop (k - t))<256^t:=by
   have:=leV_lt (l:=b.drop (k - t)) fun n hn=>hbt n (List.mem_of_mem_drop hn)
   rwa [List.length_drop,hbl,show k - (k - t)=t by omega] at this
  have hak7:leV (b.drop (k - t))<256^7:=Nat.lt_of_lt_of_le hak (Nat.pow_le_pow_right qE qN)
  have hnext:leV (b.drop (k - (t+1)))=leV (b.drop (k - t))*256+b.getD (b.length - 1 - t) 0:=by
   rw [show k - (t+1)=b.length - 1 - t by omega,hdr,show b.length - 1 - t+1=k - t by omega]
   simp only [leV]; omega
  generalize leV (b.drop (k - t))=acc at *
  generalize b.getD (b.length - 1 - t) 0=c at *
  refine aW (u:=.int .u64 (acc:Nat)) (e:=fun _=>.one (.int .u64 (acc:Nat))) 1 rfl hp1 rfl ?_
  refine jF acc 8 rfl rfl qE ?_
  refine bJ ⟨_,Tryz.underlying5⟩ Tryz.underlying22 ((c:Nat):Int) (by rw [dA]; omega) ?_
  refine nI (acc*2^8%18446744073709551616) c rfl rfl (Nat.mod_lt _ qE) qN ?_
  rw [Nat.mod_eq_of_lt qN,show acc*2^8=acc*256 from rfl,or_low hc,← hnext]
  refine aH (d:=.one (.int .u64 (leV (b.drop (k - (t+1))):Nat))) 1 rfl hp1 rfl qK (aP rfl) ?_
  refine ⟨⟨0,rfl,.inl ⟨rfl,?_⟩⟩⟩
  exact aD (fun F hF=>hfs F hF)
theorem rNum {fs:List bA} {K:cE} (r:Nat) (n k:Nat) (l:List Nat) (rest:List Own) (hk1:0<k) (hk:k≤8) (hn:n<256^k) (hb:Byt l)
  (kk:K (.int .u64 (n:Nat)) (rdO r l::rest) fs) :
  CallK Tryz.prog false (.func (.func 18) #[] #[]) [cN r,.int .i64 (k:Nat)] (rdO r (leN n k++l)::rest) fs K:=by
 have hl:=dO n k
 have e1:(leN n k++l).take k=leN n k:=List.take_left' hl
 have e2:(leN n k++l).drop k=l:=List.drop_left' hl
 refine rNumber r (leN n k++l) rest k hk1 hk (by rw [List.length_append,hl]; omega) ((iB n k).app hb) ?_
 rw [e1,e2,rH,Nat.mod_eq_of_lt hn]
 exact kk
theorem rBelow {fs:List bA} {K:cE} (r:Nat) (n k most:Nat) (l:List Nat) (rest:List Own) (hk1:0<k) (hk:k≤8) (hn:n<256^k) (hm:n≤most) (hm2:most<9223372036854775808) (hb:Byt l)
  (kk:K (.int .i64 (n:Nat)) (rdO r l::rest) fs) :
  CallK Tryz.prog false (.func (.func 21) #[] #[]) [cN r,.int .i64 (k:Nat),.int .u64 (most:Nat)] (rdO r (leN n k++l)::rest) fs K:=by
 refine bX (args:=[cN r,.int .i64 (k:Nat),.int .u64 (most:Nat)]) (caps:=[]) Tryz.func21 qK rfl qK (Nat.le_of_ble_eq_true rfl) ?_
 refine rNum r n k l rest hk1 hk hn hb ?_
 refine aL rfl qN ?_
 refine bJ ⟨_,Tryz.underlying22⟩ Tryz.underlying3 ((n:Nat):Int) (bT ⟨by omega,by omega⟩) ?_
 exact fin kk (aT _ _)
instance iBldInt:sJ Tryz.prog 32 [([.bool false]),([.slice none 0 0])]:=⟨⟨_,Tryz.underlying32,rfl,by kernel_rfl,rfl,by kernel_rfl,trivial⟩,by obtain ⟨i,h1,_,_,h4⟩:=fE pW; exact ⟨i,h1,h4⟩⟩
theorem cmp_bool {P:Program} {op:BinOp} {t:TypeId} {x y:Operand} {k:IntKind} {a b:Int} {r:Bool} {os:List Own} {fs:List bA} {K:cE} (h:cmpZ op a b=some r) (h1:K (.bool r) os fs):pC P op t x y (.int k a) (.int k b) os fs K :=
 ⟨dD _ (fun w=>mJ h w) h1⟩
theorem Knw.cat1 {os:List Own} {fs:List bA} {u a vm:Value} {n:Nat} {e:Nat→Dat} (h1:(u,.cat (.one a) (.one vm))∈fs) (h2:(vm,.sl 1 n e)∈fs):Knw os fs u (.cat (.one a) (.sl 1 n e)):=fun G w hw=>by
 obtain ⟨cs,⟨c1,c2,rfl,⟨rfl,ha⟩,⟨rfl,hv⟩⟩,hu⟩:=hw.facts _ h1
 obtain ⟨cs',hd,hvm⟩:=hw.facts _ h2
 obtain ⟨b,c,rfl,hd2⟩:=hd
 have e1:vm=.slice b n c:=hvm
 exact ⟨[a]++[vm],⟨[a],[vm],rfl,⟨rfl,ha⟩,by rw [e1]; exact ⟨b,c,rfl,hd2⟩⟩,hu⟩
theorem bEqualU (u v:Value) (l:List Nat):aY Tryz.prog 39 [u,v] [(u,U l),(v,U l)] (fun r os fs=>os=[]∧fs=[]∧r=.bool true):=by
 refine mV Tryz.func39 ?_
 refine aS (v:=u) (n:=l.length) (size:=1) qM fun _=>?_
 refine aS (v:=v) (n:=l.length) (size:=1) qM fun _=>?_
 refine aL rfl qN ?_
 refine aS (v:=u) (n:=l.length) (size:=1) qM fun _=>?_
 refine bD (X:=Nat) (fun i=>([(0,u),(1,v),(12,.int .i64 (l.length:Nat)),(13,.int .i64 (i:Nat))],[],[(u,U l),(v,U l)])) (fun i=>i≤l.length) (fun i=>l.length - i) rfl ?_ ?_
 ·exact bB 0 (Nat.zero_le _) trivial qF (aD qS)
 intro i hi
 replace hi:i≤l.length:=hi
 refine aO _ rfl (fun hlt=>?_) (fun hlt=>?_)
 ·have hil:i<l.length:=by omega
  refine bC [0,1,2,3,4,5,6,7,8] [0,1,2,3,4,5,6,7,8] qK qK ?_
  refine aZ (v:=u) (n:=l.length) (size:=1) (el:=UE l) qM i rfl hil fun a1=>?_
  refine bF (u:=.int .u64 (l.getD i 0:Nat)) qM ?_
  refine aZ (v:=v) (n:=l.length) (size:=1) (el:=UE l) qM i rfl hil fun a2=>?_
  refine bF (u:=.int .u64 (l.getD i 0:Nat)) qM ?_
  refine aL rfl qN ?_
  refine ar rfl qI ?_
  exact bB (i+1) qO qO qF (aD qS)
 ·exact fin ⟨rfl,rfl,rfl⟩ (aD qS)
def u64N (n:Nat):Dat:=.one (.int .u64 (n:Nat))
theorem les_drop {l:List Nat} {i:Nat} (h:i<l.length):les (l.drop i)=leN (l.getD i 0) 8++les (l.drop (i+1)):=by
 rw [drop_get h]; rfl
theorem tY {l:List Nat} {i:Nat} (h:i<l.length):l.take (i+1)=l.take i++[l.getD i 0]:=by
 rw [List.take_add_one,List.getElem?_eq_getElem h,gE,List.getElem?_eq_getElem h]
 rfl
set_option maxHeartbeats 2000000 in
theorem s7 {fs:List bA} {K:cE} (r:Nat) (x:Int) (most:Nat) (l:List Nat) (rest:List Own) (hm:(b9 x.natAbs).length≤most) (hm2:most≤65535) (hb:Byt l)
  (kk:∀ v,K v (rdO r l::rest) ((v,zd x)::fs)) :
  CallK Tryz.prog false (.func (.func 37) #[] #[]) [cN r,.int .u64 (most:Nat)] (rdO r (intB x++l)::rest) fs K:=by
 have hsg:sgN x<2:=by unfold sgN; split <;> omega
 have hass:intB x++l=leN (sgN x) 1++(leN (b9 x.natAbs).length 2++(les ((b9 x.natAbs).drop 0)++l)):=by simp [intB]
 rw [hass]
 refine bX (args:=[cN r,.int .u64 (most:Nat)]) (caps:=[]) Tryz.func37 qK rfl qK (Nat.le_of_ble_eq_true rfl) ?_
 refine aI (d:=zd 0) fun p4 hp4=>?_
 refine cM (bK (List.Perm.swap _ _ _)) ?_
 refine rBelow r (sgN x) 1 1 _ _ qE qE qN qN qE ((iB _ _).app ((nT _).app hb)) ?_
 refine cmp_bool (r:=decide (x<0)) (by show some (decide (((sgN x:Nat):Int)=1))=_; unfold sgN; split <;> simp_all) ?_
 refine dE [.one (.bool (decide (x<0))),.one (.slice none 0 0)] (by exact ⟨⟨aP rfl,rfl⟩,fun S w=>⟨rfl,rfl⟩,trivial⟩) fun u1=>?_
 refine aI (d:=zd 0) fun p5 hp5=>?_
 refine aH (d:=.cat (.one (.bool (decide (x<0)))) (.one (.slice none 0 0))) 0 rfl hp5 rfl qK (aA (.head _)) ?_
 refine cM (bK (List.Perm.swap _ _ _)) ?_
 refine rBelow r (b9 x.natAbs).length 2 most _ _ qE qE qN hm qN ((nT _).app hb) ?_
 refine bD (X:=Nat×Value) (fun y=>([(0,cN r),(4,p4),(5,p5),(6,.int .i64 ((b9 x.natAbs).length:Nat)),(14,.int .i64 ((b9 x.natAbs).length:Nat)),(15,.int .i64 (y.1:Nat))],rdO r (les ((b9 x.natAbs).drop y.1)++l)::bL p5 2 1 (fun _=>.cat (.one (.bool (decide (x<0)))) (.one y.2))::kU 1 u64N 0 y.2 ((b9 x.natAbs).take y.1)::bL p4 2 1 (fun _=>zd 0)::rest,fs)) (fun y=>y.1≤(b9 x.natAbs).length∧eQ y.2) (fun y=>(b9 x.natAbs).length - y.1) rfl ?_ ?_
 ·refine bB (0,.slice none 0 0) ⟨Nat.zero_le _,eP⟩ trivial qF ?_
  exact aM (dG _ _ 1 fun i=>u64N (([]:List Nat).getD i 0)) (aM (bK (nD _ _ _ _)) (aD qD))
 rintro ⟨i,vm⟩ ⟨hi,hvm⟩
 simp only at hi hvm ⊢
 refine aO _ rfl (fun hlt=>?_) (fun hlt=>?_)
 ·have hil:i<(b9 x.natAbs).length:=by omega
  have hlt8:=tF x.natAbs i hil
  have hdr:=les_drop hil
  refine eT [0,1,2,3,4,5,6,7] qK ?_
  refine cL 0 3 qK qK qK ?_ ?_
  ·refine cL 1 3 qK qK qK ?_ ?_
   ·refine cX [] [] [] [3] [0,1,2,3,4,5,6,7] qK qK qK ?_
    refine aF 1 rfl hp5 ?_
    refine aB (u:=vm) (e:=fun _=>.cat (.one (.bool (decide (x<0)))) (.one vm)) 1 rfl (aC (aG _)) ?_
    rw [hdr,List.append_assoc]
    refine rNum r ((b9 x.natAbs).getD i 0) 8 (les ((b9 x.natAbs).drop (i+1))++l) _ qE qE (by rw [show (256:Nat)^8=18446744073709551616 by decide]; exact hlt8) ((nT _).app hb) ?_
    refine rG (size:=1) u64N 0 ((b9 x.natAbs).getD i 0) qE (aP rfl) rfl fun l1=>?_
    refine eU (f:=u64N) (z:=0) (size:=1) 2 rfl hvm (cI (.head _)) (by rw [List.length_take]; simp only [List.length_cons,List.length_nil]; omega) (by rw [List.length_take]; simp only [List.length_cons,List.length_nil]; omega) fun vm2 hvm2=>?_
    refine aF 1 rfl hp5 ?_
    refine cP (e:=fun _=>.cat (.one (.bool (decide (x<0)))) (.one vm)) 1 rfl hp5 (Rep.rk (cD (n:=.one vm2) rfl) rfl) (aP (by obtain ⟨_,_,_,rfl⟩:=hvm2; rfl)) ?_
    refine ar rfl qI ?_
    refine bB (i+1,vm2) ⟨qO,hvm2⟩ qO qF ?_
    rw [tY hil]
    exact aD (fun F hF=>.tail _ hF)
   ·refine cX [] [] [] [3] [0,2,3,1,4,5,6,7] qK qK qK ?_
    refine aF 1 rfl hp5 ?_
    rw [hdr,List.append_assoc]
    refine rNum r ((b9 x.natAbs).getD i 0) 8 (les ((b9 x.natAbs).drop (i+1))++l) _ qE qE (by rw [show (256:Nat)^8=18446744073709551616 by decide]; exact hlt8) ((nT _).app hb) ?_
    refine aB (u:=vm) (e:=fun _=>.cat (.one (.bool (decide (x<0)))) (.one vm)) 1 rfl (aC (aG _)) ?_
    refine rG (size:=1) u64N 0 ((b9 x.natAbs).getD i 0) qE (aP rfl) rfl fun l1=>?_
    refine eU (f:=u64N) (z:=0) (size:=1) 2 rfl hvm (cI (.head _)) (by rw [List.length_take]; simp only [List.length_cons,List.length_nil]; omega) (by rw [List.length_take]; simp only [List.length_cons,List.length_nil]; omega) fun vm2 hvm2=>?_
    refine aF 1 rfl hp5 ?_
    refine cP (e:=fun _=>.cat (.one (.bool (decide (x<0)))) (.one vm)) 1 rfl hp5 (Rep.rk (cD (n:=.one vm2) rfl) rfl) (aP (by obtain ⟨_,_,_,rfl⟩:=hvm2; rfl)) ?_
    refine ar rfl qI ?_
    refine bB (i+1,vm2) ⟨qO,hvm2⟩ qO qF ?_
    rw [tY hil]
    exact aD (fun F hF=>.tail _ hF)
  ·refine cX [] [] [] [3] [2,3,0,1,4,5,6,7] qK qK qK ?_
   rw [hdr,List.append_assoc]
   refine rNum r ((b9 x.natAbs).getD i 0) 8 (les ((b9 x.natAbs).drop (i+1))++l) _ qE qE (by rw [show (256:Nat)^8=18446744073709551616 by decide]; exact hlt8) ((nT _).app hb) ?_
   refine aF 1 rfl hp5 ?_
   refine aB (u:=vm) (e:=fun _=>.cat (.one (.bool (decide (x<0)))) (.one vm)) 1 rfl (aC (aG _)) ?_
   refine rG (size:=1) u64N 0 ((b9 x.natAbs).getD i 0) qE (aP rfl) rfl fun l1=>?_
   refine eU (f:=u64N) (z:=0) (size:=1) 2 rfl hvm (cI (.head _)) (by rw [List.length_take]; simp only [List.length_cons,List.length_nil]; omega) (by rw [List.length_take]; simp only [List.length_cons,List.length_nil]; omega) fun vm2 hvm2=>?_
   refine aF 1 rfl hp5 ?_
   refine cP (e:=fun _=>.cat (.one (.bool (decide (x<0)))) (.one vm)) 1 rfl hp5 (Rep.rk (cD (n:=.one vm2) rfl) rfl) (aP (by obtain ⟨_,_,_,rfl⟩:=hvm2; rfl)) ?_
   refine ar rfl qI ?_
   refine bB (i+1,vm2) ⟨qO,hvm2⟩ qO qF ?_
   rw [tY hil]
   exact aD (fun F hF=>.tail _ hF)
 ·obtain rfl:i=(b9 x.natAbs).length:=by omega
  have hend:∀ u fs',(u,.cat (.one (.bool (decide (x<0)))) (.one vm))∈fs'→(∀ F∈fs,F∈fs')→FinK K u (rdO r (les ((b9 x.natAbs).drop (b9 x.natAbs).length)++l)::bL p5 2 1 (fun _=>.cat (.one (.bool (decide (x<0)))) (.one vm))::kU 1 u64N 0 vm ((b9 x.natAbs).take (b9 x.natAbs).length)::bL p4 2 1 (fun _=>.cat (.one (.bool (decide (x<0)))) (.one vm))::rest) fs':=fun u fs' hu hs=>by
   rw [List.take_length,List.drop_length]
   refine fin (kk u) (aM (aV 1 _ _) (aM (Seals.L (f:=u64N) (z:=0) (size:=1) 1 rfl hvm) (aM (aV 1 _ _) (aM (Seals.add (d:=zd x) (Knw.cat1 (.tail _ hu) (.head _))) (aD (fun F hF=>?_))))))
   rcases List.mem_cons.1 hF with rfl | hF
   ·exact .head _
   ·exact .tail _ (.tail _ (hs F hF))
  refine aO ((((b9 x.natAbs).length:Nat):Int)=0) rfl (fun h0=>?_) (fun h0=>?_)
  ·have hx0:x=0:=by
    have:=kI.1 (List.eq_nil_of_length_eq_zero (show (b9 x.natAbs).length=0 by omega))
    omega
   refine aF 1 rfl hp5 ?_
   refine aB (u:=.bool false) (e:=fun _=>.cat (.one (.bool (decide (x<0)))) (.one vm)) 1 rfl (by rw [hx0]; exact aJ (aG _)) ?_
   refine aL rfl qN ?_
   refine aE (d:=.cat (.one (.bool (decide (x<0)))) (.one vm)) 1 rfl hp5 rfl (inferInstance:oL _ _ 2) fun u2=>?_
   refine aH (d:=.cat (.one (.bool (decide (x<0)))) (.one vm)) 3 rfl hp4 rfl qK (aA (.head _)) ?_
   refine aE (d:=.cat (.one (.bool (decide (x<0)))) (.one vm)) 3 rfl hp4 rfl (inferInstance:oL _ _ 2) fun u3=>?_
   exact hend u3 _ (.head _) fun F hF=>.tail _ (.tail _ hF)
  ·have hn0:0<(b9 x.natAbs).length:=by omega
   have htop:(b9 x.natAbs).getD ((b9 x.natAbs).length - 1) 0≠0:=by
    obtain ⟨a,t,h1,h2,_⟩:=lims_top (n:=x.natAbs) (by intro e; rw [e,dU] at hn0; simp at hn0)
    rw [h1]; simp [gE,h2]
   have hlt8:=tF x.natAbs ((b9 x.natAbs).length - 1) qN
   refine bG rfl qN ?_
   refine aF 1 rfl hp5 ?_
   refine aB (u:=vm) (e:=fun _=>.cat (.one (.bool (decide (x<0)))) (.one vm)) 1 rfl (aC (aG _)) ?_
   refine ar rfl qI ?_
   refine eM 2 rfl hvm ((b9 x.natAbs).length - 1) qN (by rw [List.take_length]; omega) ?_
   refine gR (u:=.int .u64 ((b9 x.natAbs).getD ((b9 x.natAbs).length - 1) 0:Nat)) 2 rfl ((b9 x.natAbs).length - 1) (by rw [List.take_length]; omega) (by rw [List.take_length]; rfl) ?_
   refine aL rfl qN ?_
   refine aE (d:=.cat (.one (.bool (decide (x<0)))) (.one vm)) 1 rfl hp5 rfl (inferInstance:oL _ _ 2) fun u2=>?_
   refine aH (d:=.cat (.one (.bool (decide (x<0)))) (.one vm)) 3 rfl hp4 rfl qK (aA (.head _)) ?_
   refine aE (d:=.cat (.one (.bool (decide (x<0)))) (.one vm)) 3 rfl hp4 rfl (inferInstance:oL _ _ 2) fun u3=>?_
   exact hend u3 _ (.head _) fun F hF=>.tail _ (.tail _ hF)
def NrD (d:Int×Int):Prop:=(d.1=0∧d.2=0)∨Low d.1 0
theorem dNormN (v:Value) (d:Int×Int) (a:Nat) (h:DyOk d.1 d.2 a) (ha:a≤62) (hn:NrD d):aY Tryz.prog 38 [v] [(v,dyD d.1 d.2)] (fun r os fs=>os=[]∧fs=[(r,dyD d.1 d.2)]):=by
 obtain ⟨m,e⟩:=d
 rcases hn with ⟨h1,h2⟩ | h1
 ·simp only at h1 h2
  subst h1 h2
  have:=dNormG v 0 0 a h ha
  rwa [show dnM 0=0 by unfold dnM; simp,show dnE 0 0=0 from if_pos rfl] at this
 ·have:=dNorm v m e a h 0 qN h1 qE
  simpa using this
theorem bne_val {P:Program} {t:TypeId} {x y:Operand} {a b:Bool} {os:List Own} {fs:List bA} {K:cE} [ht:TBool P t] (h:K (.bool (a != b)) os fs):pC P .neq t x y (.bool a) (.bool b) os fs K:=by
 cases a <;> cases b
 ·exact gF (fun e=>absurd rfl e) (fun _=>h)
 ·exact gF (fun _=>h) (fun e=>by cases e)
 ·exact gF (fun _=>h) (fun e=>by cases e)
 ·exact gF (fun e=>absurd rfl e) (fun _=>h)
set_option maxHeartbeats 2000000 in
theorem rDyad {fs:List bA} {K:cE} (r:Nat) (d:Int×Int) (l:List Nat) (rest:List Own) (a:Nat) (h:DyOk d.1 d.2 a) (ha:a≤62) (hn:NrD d) (he : -65536≤d.2∧d.2<65536) (hb:Byt l)
  (kk:∀ v,K v (rdO r l::rest) ((v,dyD d.1 d.2)::fs)) :
  CallK Tryz.prog false (.func (.func 23) #[] #[]) [cN r] (rdO r (dyB d++l)::rest) fs K:=by
 have hll:(b9 d.1.natAbs).length≤65535:=by have:=h.sm.len; omega
 have hass:dyB d++l=intB d.1++(leN (d.2+65536).toNat 4++l):=by simp [dyB]
 rw [hass]
 refine bX (args:=[cN r]) (caps:=[]) Tryz.func23 qK rfl qK (Nat.le_of_ble_eq_true rfl) ?_
 refine aI (d:=dyD 0 0) fun p2 hp2=>?_
 refine cM (bK (List.Perm.swap _ _ _)) ?_
 refine s7 r d.1 65535 _ _ hll qE ((iB _ _).app hb) fun v1=>?_
 refine dE [zd d.1,.one (.int .i64 0)] (by exact ⟨⟨aA (.head _),rfl⟩,fun S w=>mO S w 0,trivial⟩) fun u1=>?_
 refine aI (d:=dyD 0 0) fun p3 hp3=>?_
 refine aH (d:=dyD d.1 0) 0 rfl hp3 rfl qK (aA (d:=dyD d.1 0) (.head _)) ?_
 refine cM (bK (List.Perm.swap _ _ _)) ?_
 refine rNum r (d.2+65536).toNat 4 l _ qE qE (by rw [show (256:Nat)^4=4294967296 by decide]; omega) hb ?_
 refine bJ ⟨_,Tryz.underlying22⟩ Tryz.underlying3 (d.2+65536) (by rw [show (((d.2+65536).toNat:Nat):Int)=d.2+65536 by omega]; exact bT ⟨by omega,by omega⟩) ?_
 refine ar rfl qI ?_
 rw [show d.2+65536 - 65536=d.2 by omega]
 refine aF 1 rfl hp3 ?_
 refine cP (e:=fun _=>dyD d.1 0) 1 rfl hp3 (Rep.rk (cD (n:=.one (.int .i64 d.2)) rfl) rfl) (aP rfl) ?_
 refine aE (d:=dyD d.1 d.2) 1 rfl hp3 rfl (cB _ _) fun u2=>?_
 refine bN (dNormN u2 d a h ha hn) (aT _ _) (aX (.head _) (bP _)) ?_
 rintro u3 _ _ ⟨rfl,rfl⟩
 refine aI (d:=dyD 0 0) fun p4 hp4=>?_
 refine aH (d:=dyD d.1 d.2) 0 rfl hp4 rfl qK (aA (d:=dyD d.1 d.2) (.head _)) ?_
 refine aF 0 rfl hp4 ?_
 refine aB (u:=.int .i64 d.2) (e:=fun _=>dyD d.1 d.2) 0 rfl (aC (aG _)) ?_
 refine aF 2 rfl hp3 ?_
 refine aB (u:=.int .i64 d.2) (e:=fun _=>dyD d.1 d.2) 2 rfl (aC (aG _)) ?_
 refine aL rfl qN ?_
 refine aF 0 rfl hp4 ?_
 refine bM hp4 ?_
 refine aB (u:=.bool (decide (d.1<0))) (e:=fun _=>dyD d.1 d.2) 0 rfl (aJ (aJ (aG _))) ?_
 refine aF 2 rfl hp3 ?_
 refine bM hp3 ?_
 refine aB (u:=.bool (decide (d.1<0))) (e:=fun _=>dyD d.1 d.2) 2 rfl (aJ (aJ (aG _))) ?_
 refine bne_val ?_
 rw [show (decide (d.1<0) != decide (d.1<0))=false by simp]
 refine aF 0 rfl hp4 ?_
 refine bM hp4 ?_
 refine aK (d:=U (b9 d.1.natAbs)) (e:=fun _=>dyD d.1 d.2) 0 rfl (aJ (aC (aG _))) (gD _) fun u4=>?_
 refine aF 2 rfl hp3 ?_
 refine bM hp3 ?_
 refine aK (d:=U (b9 d.1.natAbs)) (e:=fun _=>dyD d.1 d.2) 2 rfl (aJ (aC (aG _))) (gD _) fun u5=>?_
 refine bN (bEqualU u4 u5 (b9 d.1.natAbs)) (aT _ _) (aX (.tail _ (.head _)) (aX (.head _) (bP _))) ?_
 rintro _ _ _ ⟨rfl,rfl,rfl⟩
 refine aE (d:=dyD d.1 d.2) 2 rfl hp3 rfl (cB _ _) fun u6=>?_
 refine aH (d:=dyD d.1 d.2) 3 rfl hp2 rfl qK (aA (d:=dyD d.1 d.2) (.head _)) ?_
 refine aE (d:=dyD d.1 d.2) 3 rfl hp2 rfl (cB _ _) fun u7=>?_
 refine fin (kk u7) (dS (aM (aV 1 _ _) (aM (aV 1 _ _) (aD (fun F hF=>?_)))))
 rcases List.mem_cons.1 hF with rfl | hF
 ·exact .head _
 ·repeat (first | exact hF | apply List.Mem.tail)
def htR (h:Ht):Ht:=⟨h.b,⟨h.l.b,h.l.k,0,0,0,0,false⟩⟩
def htZ (h:Ht):Ht:=⟨h.b,pS⟩
def htK (h:Ht):Ht:=⟨h.b,⟨⟨0,0,0⟩,h.l.k,0,0,0,0,false⟩⟩
set_option maxHeartbeats 2000000 in
theorem rHit {fs:List bA} {K:cE} (r:Nat) (h:Ht) (l:List Nat) (rest:List Own) (hc:HtC h.l) (hb64:h.b<18446744073709551616) (hb:Byt l)
  (kk:∀ v,K v (rdO r l::rest) ((v,fG (htR h))::fs)) :
  CallK Tryz.prog false (.func (.func 22) #[] #[]) [cN r] (rdO r (hitB h++l)::rest) fs K:=by
 have hk:=hc.k
 have hq:=hc.q
 have h84:(256:Nat)^4=4294967296:=by decide
 have h88:(256:Nat)^8=18446744073709551616:=by decide
 have hass:hitB h++l=leN h.b 8++(leN (h.l.k+65536).toNat 4++(leN h.l.b.q.toNat 4++(intB h.l.b.lo++(intB h.l.b.hi++l)))):=by simp [hitB]
 rw [hass]
 refine bX (args:=[cN r]) (caps:=[]) Tryz.func22 qK rfl qK (Nat.le_of_ble_eq_true rfl) ?_
 refine aI (d:=fG ht0) fun p2 hp2=>?_
 refine cM (bK (List.Perm.swap _ _ _)) ?_
 refine rNum r h.b 8 _ _ qE qE qN ((iB _ _).app ((iB _ _).app ((lC _).app ((lC _).app hb)))) ?_
 refine dE [.one (.int .u64 (h.b:Nat)),fY pS] (by exact ⟨⟨aP rfl,rfl⟩,fun S w=>look0_rd S w,trivial⟩) fun u1=>?_
 refine aI (d:=fG ht0) fun p3 hp3=>?_
 refine aH (d:=fG (htZ h)) 0 rfl hp3 rfl qK (aA (d:=fG (htZ h)) (.head _)) ?_
 refine cM (bK (List.Perm.swap _ _ _)) ?_
 refine rBelow r (h.l.k+65536).toNat 4 131071 _ _ qE qE qN qN qE ((iB _ _).app ((lC _).app ((lC _).app hb))) ?_
 refine ar rfl qI ?_
 rw [show (((h.l.k+65536).toNat:Nat):Int) - 65536=h.l.k by omega]
 refine aF 1 rfl hp3 ?_
 refine bM hp3 ?_
 refine cP (e:=fun _=>fG (htZ h)) 1 rfl hp3 (Rep.rk (Rep.rk (Rep.left (cD (n:=.one (.int .i64 h.l.k)) rfl)) rfl) rfl) (aP rfl) ?_
 refine rBelow r h.l.b.q.toNat 4 2048 _ _ qE qE qN qN qE ((lC _).app ((lC _).app hb)) ?_
 rw [show ((h.l.b.q.toNat:Nat):Int)=h.l.b.q by omega]
 refine s7 r h.l.b.lo 64 _ _ hc.lo.len qE ((lC _).app hb) fun v1=>?_
 refine aI (d:=zd 0) fun p5 hp5=>?_
 refine aH (d:=zd h.l.b.lo) 0 rfl hp5 rfl qK (aA (.head _)) ?_
 refine eT [0,1,2,3,4,5,6,7] qK ?_
 refine cL 0 2 qK qK qK ?_ ?_
 ·refine cX [] [] [] [2] [0,1,3,2,4,5,6,7] qK qK qK ?_
  refine aE (d:=zd h.l.b.lo) 0 rfl hp5 rfl (aR _) fun u5=>?_
  refine cM (bK (List.Perm.swap _ _ _)) ?_
  refine s7 r h.l.b.hi 64 l _ hc.hi.len qE hb fun v2=>?_
  refine dE [zd h.l.b.lo,zd h.l.b.hi,.one (.int .i64 h.l.b.q)] (by exact ⟨⟨aA (.tail _ (.head _)),rfl⟩,⟨aA (.head _),rfl⟩,⟨aP rfl,rfl⟩,trivial⟩) fun u6=>?_
  refine aF 2 rfl hp3 ?_
  refine bM hp3 ?_
  refine cP (e:=fun _=>fG (htK h)) 2 rfl hp3 (Rep.rk (Rep.left (cD (n:=aN h.l.b.lo h.l.b.hi h.l.b.q) rfl)) rfl) (aA (d:=aN h.l.b.lo h.l.b.hi h.l.b.q) (.head _)) ?_
  refine aE (d:=fG (htR h)) 2 rfl hp3 rfl (pU _) fun u7=>?_
  refine aH (d:=fG (htR h)) 3 rfl hp2 rfl qK (aA (d:=fG (htR h)) (.head _)) ?_
  refine aE (d:=fG (htR h)) 3 rfl hp2 rfl (pU _) fun u8=>?_
  refine fin (kk u8) (aM (aV 1 _ _) (aM (aV 1 _ _) (aM (aV 1 _ _) (aD (fun F hF=>?_)))))
  rcases List.mem_cons.1 hF with rfl | hF
  ·exact .head _
  ·repeat (first | exact hF | apply List.Mem.tail)
 ·refine cX [] [] [] [2] [1,3,2,0,4,5,6,7] qK qK qK ?_
  refine cM (bK (List.Perm.swap _ _ _)) ?_
  refine s7 r h.l.b.hi 64 l _ hc.hi.len qE hb fun v2=>?_
  refine aE (d:=zd h.l.b.lo) 1 rfl hp5 rfl (aR _) fun u5=>?_
  refine dE [zd h.l.b.lo,zd h.l.b.hi,.one (.int .i64 h.l.b.q)] (by exact ⟨⟨aA (.head _),rfl⟩,⟨aA (.tail _ (.head _)),rfl⟩,⟨aP rfl,rfl⟩,trivial⟩) fun u6=>?_
  refine aF 2 rfl hp3 ?_
  refine bM hp3 ?_
  refine cP (e:=fun _=>fG (htK h)) 2 rfl hp3 (Rep.rk (Rep.left (cD (n:=aN h.l.b.lo h.l.b.hi h.l.b.q) rfl)) rfl) (aA (d:=aN h.l.b.lo h.l.b.hi h.l.b.q) (.head _)) ?_
  refine aE (d:=fG (htR h)) 2 rfl hp3 rfl (pU _) fun u7=>?_
  refine aH (d:=fG (htR h)) 3 rfl hp2 rfl qK (aA (d:=fG (htR h)) (.head _)) ?_
  refine aE (d:=fG (htR h)) 3 rfl hp2 rfl (pU _) fun u8=>?_
  refine fin (kk u8) (aM (aV 1 _ _) (aM (aV 1 _ _) (aM (aV 1 _ _) (aD (fun F hF=>?_)))))
  rcases List.mem_cons.1 hF with rfl | hF
  ·exact .head _
  ·repeat (first | exact hF | apply List.Mem.tail)
def markD (r:Nat):Deferred:={ target:=.collected r,args := #[] }
theorem mC {P:Program} {fn:Func} {tmps:Array Value} {R:Ending→World→Prop} {A:Nat→Prop} {B:Nat} {w0:World} {M0:Nat→Obj→Prop} {D0:(Nat→Prop)×List Deferred} {os:List Own} {fs:List bA} {base:List Deferred}
  (hR:∀ w,Holds ⟨A,B,w0,M0,D0⟩ os fs w→LeavesInM (fnc none) 0 P fn tmps R base .returning w) :
  ∀ (rs:List Nat),rs.Nodup→(∀ r o,r∈rs→¬ M0 r o)→∀ w,Holds ⟨A,B,w0,fun r o=>M0 r o∨(r∈rs∧o=kQ),D0⟩ os fs w→LeavesInM (fnc none) 0 P fn tmps R (rs.map markD++base) .returning w
 | [],_,_,w,hw=>by
  have hw':Holds ⟨A,B,w0,M0,D0⟩ os fs w:=⟨hw.low,hw.size,hw.below,hw.apart,hw.own,hw.facts,fun b o hb=>hw.kept b o (.inl hb)⟩
  exact hR w hw'
 | r::rs,hnd,hdj,w,hw=>by
  rw [List.nodup_cons] at hnd
  obtain ⟨k1,k2,k3⟩:=hw.kept r _ (.inr ⟨List.mem_cons_self .., rfl⟩)
  refine ⟨by simp,.inl ⟨r,w.putObj r (.deferred none),rfl,run_takeDeferred k2,?_⟩⟩
  refine mC hR rs hnd.2 (fun x o hx=>hdj x o (List.mem_cons_of_mem _ hx)) _ ?_
  refine hw.turn k2 trivial k1 fun b o hb=>?_
  rcases hb with hb | hb
  ·exact ⟨.inl hb,fun e=>hdj r o (List.mem_cons_self ..) (e ▸ hb)⟩
  ·exact ⟨.inr ⟨List.mem_cons_of_mem _ hb.1,hb.2⟩,fun e=>hnd.1 (e ▸ hb.1)⟩
theorem nZ {P:Program} {ops:Array Oper} {Q:Exit→Act→World→Prop} {i:Nat} {rest:List Nat} {o:Oper} {a:Act} {w:World} (ho:ops[i]? = some o) (hg:o.guard=none) (h:o.wpIn (fnc none) 0 P a w (wpOpsIn (fnc none) 0 P ops Q rest) Q):wpOpsIn (fnc none) 0 P ops Q (i::rest) a w:=by
 unfold wpOpsIn
 simp only [ho]
 rw [if_pos (by simp [Region.wanted,hg])]
 exact h
def IdleD (P:Program) (g:FuncId) (args:Array Value):Prop:=∀ w,CallsDIn (fnc none) 0 P g args .returning w fun e u' w'=>(∃ v,e=.returned v)∧u'=.returning∧w'=w
def defQ (P:Program) (N t:Nat) (caps:Array Operand) (gd:FuncId) (rest:Code) (Q:iX):iX
 | .normal=>fun f os fs=>∃ cv,evs f caps.toList=some cv∧IdleD P gd cv.toArray∧SemC P N rest ((t,.func (.func gd) #[] cv.toArray)::f) os fs Q
 | _=>fun _ _ _=>False
theorem meets_defer {P:Program} {g gd:FuncId} {fn fd:Func} {cd r0 rest:Code} {idn t:Nat} {ty1 ty2:TypeId} {ps1 ps2:String} {af1 af2:Array Edge} {ats:Array TypeId} {caps:Array Operand} {args:List Value} {fs:List bA} {R:Value→List Own→List bA→Prop}
  (hf : P.funcs[g]? = some fn) (hname : (fn.name == "runtime.NumGoroutine") = false)
  (hb:fn.body=some (.seq r0 (.seq (.region idn #[⟨some t,.makeFunc (.func gd) #[] caps,ty1,ps1,af1,none⟩,⟨none,.defer ⟨.value (.tmp t), #[],ats⟩,ty2,ps2,af2,none⟩] false) rest)))
  (hok0:fH fn.ntmps r0=true) (ht:Nat.blt t fn.ntmps=true) (hn:args.length≤fn.ntmps)
  (hfd : P.funcs[gd]? = some fd) (hnamed : (fd.name == "runtime.NumGoroutine") = false) (hbd : fd.body = some cd)
  (h:VC P fn.ntmps r0 (argF 0 args) [] fs (defQ P fn.ntmps t caps gd rest (retQ P fn R))):aY P g args fs R:=by
 refine ⟨fun av w=>?_,fun A w hA hfs=>?_⟩
 ·simp only [callFunc,Sem.run_bind,run_program,Result.andThen_ok,hf,hname,hb]
  rfl
 refine callsIn_wide.1 (callsIn_of_wp_marks (F:=fnc none) (n:=0) hf hb trivial ?_ rfl)
 refine wpIn_seq (wpIn_mono (VC.soundR (r:=none) r0 ⟨A,w.heap.size,w,noO,noM⟩ _ [] fs _ hok0 (.inl rfl) h _ w (rI hn) (mE hA hfs noM)) ?_)
 rintro e a1 w1 ⟨G',⟨X,M,D,rfl,hM,hD,hX⟩,f,os,fs1,hk,hw,hq⟩
 cases e with
 | normal =>
  obtain ⟨cv,hcv,hidle,hvc⟩:=hq
  obtain ⟨rs,h1,h2,h3⟩:=hk.defers
  have hXr:∀ r,r∈rs→X r:=fun r hr=>((hD r).1 (h2 r hr).1).elim (fun h=>h.elim) id
  have hds:a1.defers=rs.map markD:=by rw [h3]; exact List.append_nil _
  have hdv:detv f (.makeFunc (.func gd) #[] caps)=some (.func (.func gd) #[] cv.toArray):=by
   show (match evs f (#[]:Array Operand).toList,evs f caps.toList with
    | some x,some y=>some (Value.func (.func gd) x.toArray y.toArray)
    | _,_=>none)=_
   rw [hcv]
   rfl
  have hdst:rM fn.ntmps (some t)=true:=ht
  have hput:=hk.put hdst (.func (.func gd) #[] cv.toArray)
  have hev:(a1.put (some t) (.func (.func gd) #[] cv.toArray)).eval (.tmp t)=.func (.func gd) #[] cv.toArray:=hput.ev (x:=.tmp t) (by
   show look ((t,.func (.func gd) #[] cv.toArray)::f) t=_
   simp [look])
  have hrest:∀ a2:Act,a2.defers={ target:=.fn (.func gd) cv.toArray,args := #[] }::rs.map markD→a2.tmps.size=fn.ntmps→(∀ t' v,look ((t,.func (.func gd) #[] cv.toArray)::f) t'=some v→a2.tmps[t']? = some v) →
    rest.wpIn (fnc none) 0 P (bodyPostM (fnc none) 0 P fn (fun e w'=>∃ v os' fs',e=.returned v∧R v os' fs'∧Holds ⟨A,w.heap.size,w,noO,noM⟩ os' fs' w')) a2 w1:=by
   intro a2 g1 g2 g3
   have hk2:Knows ⟨A,w.heap.size,w,M,(fun _=>False,{ target:=.fn (.func gd) cv.toArray,args := #[] }::rs.map markD)⟩ fn.ntmps ((t,.func (.func gd) #[] cv.toArray)::f) a2 :=
    ⟨⟨[],List.nodup_nil,fun _ h=>by simp at h,by rw [g1]; rfl⟩,g2,g3⟩
   have hw2:Holds ⟨A,w.heap.size,w,M,(fun _=>False,{ target:=.fn (.func gd) cv.toArray,args := #[] }::rs.map markD)⟩ os fs1 w1:=⟨hw.low,hw.size,hw.below,hw.apart,hw.own,hw.facts,hw.kept⟩
   refine wpIn_mono (hvc.out _ a2 w1 hk2 hw2) ?_
   rintro e a3 w3 ⟨G3,⟨X3,M3,D3,rfl,hM3,hD3,hX3⟩,f3,os3,fs3,hk3,hw3,hq3⟩
   have fin:RetK P f3 R fn.results.toList [] os3 fs3→LeavesInM (fnc none) 0 P fn a3.tmps (fun e w'=>∃ v os' fs',e=.returned v∧R v os' fs'∧Holds ⟨A,w.heap.size,w,noO,noM⟩ os' fs' w') a3.defers .returning w3:=fun hq=>by
    obtain ⟨rs3,k1,k2,k3⟩:=hk3.defers
    have hX3r:∀ r,r∈rs3→X3 r:=fun r hr=>((hD3 r).1 (k2 r hr).1).elim (fun h=>h.elim) id
    have hds3:a3.defers=rs3.map markD++({ target:=.fn (.func gd) cv.toArray,args := #[] }::rs.map markD):=k3
    rw [hds3]
    have hw3':Holds ⟨A,w.heap.size,w,fun r o=>M r o∨(r∈rs3∧o=kQ),noM⟩ os3 fs3 w3:=⟨hw3.low,hw3.size,hw3.below,hw3.apart,hw3.own,hw3.facts,fun b o hb=>hw3.kept b o ((hM3 b o).2 (hb.imp id fun h=>⟨hX3r b h.1,h.2⟩))⟩
    refine mC (os:=os3) (fs:=fs3) (fun w4 hw4=>?_) rs3 k1 (fun r o hr=>hX3 r o (hX3r r hr)) w3 hw3'
    have hinv:(invoke (.fn (.func gd) cv.toArray) #[]).run P w4=.ok (.enter gd cv.toArray) w4:=by
     simp only [invoke,callFunc,Sem.run_bind,run_program,Result.andThen_ok,hfd,hnamed,hbd,Array.empty_append]
     rfl
    refine ⟨by simp,.inr ⟨fun h=>by simp [fnc,Fence.wide] at h,.func gd,cv.toArray,gd,cv.toArray,rfl,hinv,fun _ _=>trivial,(hidle w4).mono ?_⟩⟩
    rintro e u' w' ⟨⟨v,rfl⟩,rfl,rfl⟩
    show LeavesInM (fnc none) 0 P fn a3.tmps _ (rs.map markD) (settle .returning) w'
    have hw4':Holds ⟨A,w.heap.size,w,fun r o=>noO r o∨(r∈rs∧o=kQ),noM⟩ os3 fs3 w':=⟨hw4.low,hw4.size,hw4.below,hw4.apart,hw4.own,hw4.facts,fun b o hb=>hw4.kept b o ((hM b o).2 (hb.imp id fun h=>⟨hXr b h.1,h.2⟩))⟩
    have:LeavesInM (fnc none) 0 P fn a3.tmps (fun e w'=>∃ v os' fs',e=.returned v∧R v os' fs'∧Holds ⟨A,w.heap.size,w,noO,noM⟩ os' fs' w') (rs.map markD++[]) .returning w':=mC (base:=[]) (os:=os3) (fs:=fs3) (fun w5 hw5=>by
     have hk0:Knows ⟨A,w.heap.size,w,noO,noM⟩ fn.ntmps f3 { a3 with defers:=[] }:=⟨Marks.nil,hk3.size,hk3.holds⟩
     obtain ⟨vs,os1,fs1,g1,g2,g3⟩:=RetK.sound hk0 _ _ _ _ hq hw5
     exact ⟨_,uD g1,_,os1,fs1,rfl,by simpa using g2,g3⟩) rs h1 (fun r o hr h=>h.elim) w' hw4'
    rwa [List.append_nil] at this
   cases e with
   | normal=>exact fin hq3
   | ret=>exact fin hq3
   | exit id=>exact hq3.elim
   | goto l=>exact hq3.elim
   | panic ch=>exact hq3.elim
   | outgrown=>exact hq3.elim
  refine wpIn_seq (wpIn_region ?_)
  show wpOpsIn (fnc none) 0 P _ _ [0,1] a1 w1
  refine nZ (o:=⟨some t,.makeFunc (.func gd) #[] caps,ty1,ps1,af1,none⟩) rfl rfl ⟨fun _ _=>trivial,?_⟩
  show Oper.uponIn _ _ _ _ _ _ _ ((Oper.semAt none _ _).run P w1)
  rw [Oper.semAt_none,detv_sound P hk hdv w1]
  rw [Oper.uponIn_value]
  refine nZ (o:=⟨none,.defer ⟨.value (.tmp t), #[],ats⟩,ty2,ps2,af2,none⟩) rfl rfl ⟨fun _ _=>trivial,?_⟩
  show Oper.uponIn _ _ _ _ _ _ _ ((Oper.semAt none _ _).run P w1)
  rw [Oper.semAt_none]
  have hex:(execOp (a1.put (some t) (.func (.func gd) #[] cv.toArray)).eval ⟨none,.defer ⟨.value (.tmp t), #[],ats⟩,ty2,ps2,af2,none⟩).run P w1=.ok (.defer { target:=.fn (.func gd) cv.toArray,args := #[] }) w1:=by
   simp [execOp,resolve,hev,Deferred.ofValue]
  rw [hex,Oper.uponIn_defer]
  refine hrest _ ?_ ?_ ?_
  ·show _::a1.defers=_
   rw [hds]
  ·exact hput.size
  ·exact hput.holds
 | exit id=>exact hq.elim
 | goto l=>exact hq.elim
 | ret=>exact hq.elim
 | panic ch=>exact hq.elim
 | outgrown=>exact hq.elim
theorem idle_recover {P:Program} {g:FuncId} {fd:Func} {i0 i3 i4 bl ta tb tc:Nat} {ty ty2 y0 y3 y4:TypeId} {p0 p3 p4:String} {e0 e3 e4:Array Edge} {els:Code} {args:Array Value}
  (hf:P.funcs[g]? = some fd) (hb:fd.body=some (.seq (.region i0 #[⟨some ta,.call ⟨.builtin .recover, #[], #[]⟩,y0,p0,e0,none⟩] false) (.block bl (.seq (.region i3 #[⟨some tb,.binOp .eql ty (.tmp ta) (.const .nilIface) ty2,y3,p3,e3,none⟩] false) (.cond (.tmp tb) (.region i4 #[⟨some tc,.assign (.tmp ta),y4,p4,e4,none⟩] false) els)))))
  (hr:fd.results = #[]) (hty:P.underlying ty=some (.interface (P.methodsAt ty))) (ha:Nat.blt ta fd.ntmps=true) (hb2:Nat.blt tb fd.ntmps=true) (hc:Nat.blt tc fd.ntmps=true) (hab:Nat.beq ta tb=false) (hbt:Nat.beq tb ta=false) (hn:args.size≤fd.ntmps):IdleD P g args:=by
 intro w
 refine callsDIn_of_wpSIn hf hb trivial fun c₀ cs hu=>?_
 generalize haa:({ tmps:=args++Array.replicate (fd.ntmps - args.size) undef,defers:=[] }:Act)=a0
 have hk0:Knows ⟨fun _=>False,0,w,noO,noM⟩ fd.ntmps [] a0:=by
  rw [← haa]
  exact ⟨Marks.nil,by simp; omega,fun t v h=>by cases h⟩
 have hd0:a0.defers=[]:=by rw [← haa]
 have hk1:=hk0.put (d:=some ta) ha .nilIface
 have hv1:(a0.put (some ta) .nilIface).eval (.tmp ta)=.nilIface:=hk1.ev (x:=.tmp ta) (by
  show look [(ta,.nilIface)] ta=_
  simp [look])
 have hk2:=hk1.put (d:=some tb) hb2 (.bool true)
 have hv2:((a0.put (some ta) .nilIface).put (some tb) (.bool true)).eval (.tmp tb)=.bool true:=hk2.ev (x:=.tmp tb) (by
  show look [(tb,.bool true),(ta,.nilIface)] tb=_
  simp [look])
 have hv3:((a0.put (some ta) .nilIface).put (some tb) (.bool true)).eval (.tmp ta)=.nilIface:=hk2.ev (x:=.tmp ta) (by
  show look [(tb,.bool true),(ta,.nilIface)] ta=_
  simp [look,hbt])
 have hrec:recoverD (c₀::cs)=none:=by
  simp only [recoverD,hu]
 refine wpSIn_seq (wpSIn_region ?_)
 show wpOpsSIn (fnc none) 0 P _ _ [0] a0 (c₀::cs) w
 unfold wpOpsSIn
 simp only [List.getElem?_toArray,List.getElem?_cons_zero]
 refine ⟨fun _ _=>trivial,?_⟩
 rw [if_pos (by rfl)]
 have hex:(execOp a0.eval ⟨some ta,.call ⟨.builtin .recover, #[], #[]⟩,y0,p0,e0,none⟩).run P w=.ok .recover w:=by
  simp [execOp,resolve,invoke,builtin]
 simp only [hex,hrec]
 show (Code.wpSIn (fnc none) 0 P _ _ (a0.put (some ta) .nilIface) (c₀::cs) w)
 refine wpSIn_of_wpIn rfl (wpIn_block (wpIn_seq (wpIn_region ?_)))
 refine nZ (o:=⟨some tb,.binOp .eql ty (.tmp ta) (.const .nilIface) ty2,y3,p3,e3,none⟩) rfl rfl ⟨fun _ _=>trivial,?_⟩
 show Oper.uponIn _ _ _ _ _ _ _ ((Oper.semAt none _ _).run P w)
 rw [Oper.semAt_none]
 have hex2:(execOp (a0.put (some ta) .nilIface).eval ⟨some tb,.binOp .eql ty (.tmp ta) (.const .nilIface) ty2,y3,p3,e3,none⟩).run P w=.ok (.value (.bool true)) w:=by
  have he:(a0.put (some ta) .nilIface).eval (.const .nilIface)=.nilIface:=rfl
  simp only [execOp,hv1,he]
  have:=run_equal_nil_nil (P:=P) w ty hty
  simp [eqGuard_nil_constR,binOp,this]
 rw [hex2,Oper.uponIn_value]
 show Code.wpIn (fnc none) 0 P _ _ _ w
 refine wpIn_cond_true hv2 (wpIn_region ?_)
 refine nZ (o:=⟨some tc,.assign (.tmp ta),y4,p4,e4,none⟩) rfl rfl ⟨fun _ _=>trivial,?_⟩
 show Oper.uponIn _ _ _ _ _ _ _ ((Oper.semAt none _ _).run P w)
 rw [Oper.semAt_none]
 have hex3:(execOp ((a0.put (some ta) .nilIface).put (some tb) (.bool true)).eval ⟨some tc,.assign (.tmp ta),y4,p4,e4,none⟩).run P w=.ok (.value .nilIface) w:=by
  simp only [execOp,hv3]
  rfl
 rw [hex3,Oper.uponIn_value]
 refine ⟨hd0,.returning,by obtain ⟨⟩:=c₀; simp_all,.tuple #[],?_,⟨_,rfl⟩,rfl,rfl⟩
 unfold results
 rw [hr]
 simp
set_option maxRecDepth 20000 in
theorem idleRead (cv:Array Value) (h:cv.size≤17):IdleD Tryz.prog 16 cv :=
 idle_recover Tryz.func16 rfl qK Tryz.underlying20 qK qK qK rfl rfl h
theorem n9 {os:List Own} {fs:List bA} {s:Value} {X:List Nat} (h:(s,BD X)∈fs):Reads os fs (.agg #[s]) (BD X):=fun G w hw=>by
 obtain ⟨cs,h1,h2⟩:=hw.facts _ h
 obtain ⟨a,c,rfl,h3⟩:=h1
 exact ⟨[.slice a X.length c],⟨a,c,rfl,h3⟩,by rw [show s=.slice a X.length c from h2]; rfl⟩
theorem info_hits:(Tryz.prog.info? 29).map (fun i=>(i.zero,i.size,i.bytes))=some (some (.slice none 0 0),1,24):=by kernel_rfl
instance tzHits:iD Tryz.prog 29 (.one (.slice none 0 0)):=mQ info_hits fun _ _=>⟨rfl,rfl⟩
def leftC (l:List Ht):List Nat:=leN l.length 4++(kK l++(dyB (brV dyL l)++(dyB (brV dyM l)++[])))
theorem bodyC_eq (j:Jb) (l:List Ht):rP j l=hdrC++(gL j++leftC l):=by simp [rP,leftC]
theorem hitsB_drop {l:List Ht} {i:Nat} (h:i<l.length):kK (l.drop i)=hitB (l.getD i ht0)++kK (l.drop (i+1)):=by
 rw [List.drop_eq_getElem_cons h,gE,List.getElem?_eq_getElem h]
 rfl
theorem oJ {P:Program} {t:TypeId} {z:Value} [ht:sJ P t [[z]]] {s:Value} {X:List Nat} {os:List Own} {fs:List bA} {K:cE} (h:(s,BD X)∈fs) (k:K (.agg #[s]) os fs):oV P t [(0,s)] os fs K:=⟨fun G w hw=>by
 obtain ⟨cs,⟨a,c,rfl,_⟩,h2⟩:=hw.facts _ h
 have e:s=.slice a X.length c:=h2
 exact (vN (P:=P) (t:=t) (v:=s) (by rw [e]; rfl) k).out G w hw⟩
set_option maxRecDepth 20000 in
set_option maxHeartbeats 4000000 in
theorem cRead (u:Value) (j:Jb) (l:List Ht) (hj:j.ok) (hC:qX l) (hn1:NrD (brV dyL l)) (hn2:NrD (brV dyM l)) (hBl:(qB j l).length≤900000) :
  aY Tryz.prog 8 [u] [(u,BD (qB j l))] (fun x os fs=>∃ a b c d,x=.tuple #[a,b,c,d,.int .i64 0]∧eQ b∧os=[ownH b (l.map htR)]∧fs=[(a,cO j),(c,dyD (brV dyL l).1 (brV dyL l).2),(d,dyD (brV dyM l).1 (brV dyM l).2)]):=by
 obtain ⟨hlen,hk⟩:=hC
 have hd1:DyOk (brV dyL l).1 (brV dyL l).2 60:=sG fun x hx=>dyL_ok (hk x hx).1
 have hd2:DyOk (brV dyM l).1 (brV dyM l).2 60:=sG fun x hx=>dyM_ok (hk x hx).1
 have he1:=hd1.e0; have he2:=hd1.e1; have he3:=hd2.e0; have he4:=hd2.e1
 have hce:qB j l=rP j l++leN (oX sW (rP j l)) 8:=rfl
 have hbb:=byt_body j l
 have hbe:=bodyC_eq j l
 have hlb:Byt (leftC l):=by
  unfold leftC
  exact (iB _ _).app ((qH _).app ((nU _).app ((nU _).app (fun n hn=>by cases hn))))
 have hjl:=kB j
 have hll:4≤(leftC l).length:=by unfold leftC; rw [List.length_append,dO]; omega
 rw [hce] at hBl ⊢
 generalize hsm:leN (oX sW (rP j l)) 8=sm at *
 have hsl:sm.length=8:=by rw [← hsm,dO]
 generalize rP j l=body at *
 have hbl:body.length=56+(leftC l).length:=by rw [hbe]; simp [hdrC,hjl]; omega
 have hall:(body++sm).length=body.length+8:=by rw [List.length_append,hsl]
 refine meets_defer Tryz.func8 qK rfl qK qK (Nat.le_of_ble_eq_true rfl) Tryz.func16 qK rfl ?_
 refine aI (d:=cO ⟨0,0,0,0,0⟩) fun p2 hp2=>?_
 refine aI (d:=.one (.slice none 0 0)) fun p3 hp3=>?_
 refine aI (d:=dyD 0 0) fun p4 hp4=>?_
 refine aI (d:=dyD 0 0) fun p5 hp5=>?_
 refine aI (d:=.one (.int .i64 0)) fun p6 hp6=>?_
 refine ⟨[p2,p3,p4,p5,p6],rfl,idleRead _ (by show 5≤17; decide),?_⟩
 refine kM (Y:=Unit) 2 (fun _=>([(0,u),(2,p2),(3,p3),(4,p4),(5,p5),(6,p6),(7,.int .i64 (body.length:Nat))],[bL p6 1 1 (fun _=>.one (.int .i64 0)),bL p5 3 1 (fun _=>dyD 0 0),bL p4 3 1 (fun _=>dyD 0 0),bL p3 1 1 (fun _=>.one (.slice none 0 0)),bL p2 5 1 (fun _=>cO ⟨0,0,0,0,0⟩)],[(u,BD (body++sm))])) (fun _=>True) qK ?_ ?_
 ·refine aS (v:=u) (n:=(body++sm).length) (size:=1) qM fun _=>?_
  refine ar rfl qI ?_
  rw [show (((body++sm).length:Nat):Int) - 8=(body.length:Nat) by omega]
  have hpre:∀ v1,aY Tryz.prog 17 [u,v1] [(u,BD (body++sm)),(v1,BD hdrC)] (fun r os fs=>os=[]∧fs=[]∧r=.bool true):=fun v1=>by
   have:=bHasPrefix u v1 (body++sm) hdrC (hbb.app (by rw [← hsm]; exact iB _ _)) (by unfold hdrC; decide) qE (by rw [hall]; show 8≤_; omega)
   rwa [show (body++sm).take hdrC.length=hdrC by rw [hbe]; simp [hdrC],decide_eq_true rfl] at this
  have hrn:∀ (K:cE) (fs:List bA) (q7:Nat) (rest:List Own),K (.int .u64 (oX sW body:Nat)) (rdO q7 []::rest) fs→CallK Tryz.prog false (.func (.func 18) #[] #[]) [cN q7,.int .i64 (8:Nat)] (rdO q7 sm::rest) fs K:=fun K fs q7 rest kk=>by
   have h:=rNum (K:=K) (fs:=fs) q7 (oX sW body) 8 [] rest qE qE (by rw [show (256:Nat)^8=18446744073709551616 by decide]; exact q9 _ _ sum0_lt) (fun n hn=>by cases hn) kk
   rwa [List.append_nil,hsm] at h
  refine eT [0,1,2,3,4,5,6,7,8,9,10,11,12,13,14,15,16,17,18,19,20,21] qK ?_
  refine cL 14 18 qK qK qK ?_ ?_
  ·refine cL 15 18 qK qK qK ?_ ?_
   ·refine cX [] [] [] [15] [0,1,2,3,4,5,6,7,8,9,10,11,12,13,16,17,14,15,18,19,20,21] qK qK qK ?_
    refine aL rfl qN ?_
    refine kH hdrC rfl rfl qE fun v1 hv1=>?_
    refine kA Tryz.underlying5 0 rfl hv1 qE ?_
    refine bN (hpre v1) (Seals.B (l:=hdrC) 0 rfl hv1) (aX (.tail _ (.head _)) (aX (.head _) (bP _))) ?_
    rintro _ _ _ ⟨rfl,rfl,rfl⟩
    refine eV (v:=u) (l:=body++sm) (by repeat (first | exact .head _ | apply List.Mem.tail)) body.length (body++sm).length _ _ (kl:=.i64) (kh:=.i64) (.inr rfl) (.inl ⟨rfl,rfl⟩) qN (Nat.le_refl _) fun s1=>?_
    rw [List.take_length,List.drop_left' rfl]
    refine oJ (X:=sm) (.head _) ?_
    refine aQ (n9 (X:=sm) (by repeat (first | exact .head _ | apply List.Mem.tail))) fun p7 hp7=>?_
    obtain ⟨q7,rfl⟩:=hp7
    refine hrn _ _ _ _ ?_
    refine eV (v:=u) (l:=body++sm) (by repeat (first | exact .head _ | apply List.Mem.tail)) 0 body.length _ _ (kl:=.i64) (kh:=.i64) (.inl ⟨rfl,rfl⟩) (.inr rfl) (Nat.zero_le _) (by rw [List.length_append]; omega) fun s3=>?_
    rw [List.drop_zero,List.take_left' rfl]
    refine bN (cSum s3 body hbb qN) (aT _ _) (aX (by repeat (first | exact .head _ | apply List.Mem.tail)) (bP _)) ?_
    rintro _ _ _ ⟨rfl,rfl,rfl⟩
    refine aL rfl qN ?_
    exact bB () trivial trivial qF (dS (aD (fun F hF=>by
     rcases List.mem_cons.1 hF with rfl | hF
     ·repeat (first | exact .head _ | apply List.Mem.tail)
     ·cases hF)))
   ·refine cX [] [] [] [15] [0,1,2,3,4,5,6,7,8,9,10,11,12,13,16,17,14,18,15,19,20,21] qK qK qK ?_
    refine aL rfl qN ?_
    refine kH hdrC rfl rfl qE fun v1 hv1=>?_
    refine kA Tryz.underlying5 0 rfl hv1 qE ?_
    refine bN (hpre v1) (Seals.B (l:=hdrC) 0 rfl hv1) (aX (.tail _ (.head _)) (aX (.head _) (bP _))) ?_
    rintro _ _ _ ⟨rfl,rfl,rfl⟩
    refine eV (v:=u) (l:=body++sm) (by repeat (first | exact .head _ | apply List.Mem.tail)) body.length (body++sm).length _ _ (kl:=.i64) (kh:=.i64) (.inr rfl) (.inl ⟨rfl,rfl⟩) qN (Nat.le_refl _) fun s1=>?_
    rw [List.take_length,List.drop_left' rfl]
    refine oJ (X:=sm) (.head _) ?_
    refine aQ (n9 (X:=sm) (by repeat (first | exact .head _ | apply List.Mem.tail))) fun p7 hp7=>?_
    obtain ⟨q7,rfl⟩:=hp7
    refine eV (v:=u) (l:=body++sm) (by repeat (first | exact .head _ | apply List.Mem.tail)) 0 body.length _ _ (kl:=.i64) (kh:=.i64) (.inl ⟨rfl,rfl⟩) (.inr rfl) (Nat.zero_le _) (by rw [List.length_append]; omega) fun s3=>?_
    rw [List.drop_zero,List.take_left' rfl]
    refine hrn _ _ _ _ ?_
    refine bN (cSum s3 body hbb qN) (aT _ _) (aX (by repeat (first | exact .head _ | apply List.Mem.tail)) (bP _)) ?_
    rintro _ _ _ ⟨rfl,rfl,rfl⟩
    refine aL rfl qN ?_
    exact bB () trivial trivial qF (dS (aD (fun F hF=>by
     rcases List.mem_cons.1 hF with rfl | hF
     ·repeat (first | exact .head _ | apply List.Mem.tail)
     ·cases hF)))
  ·refine cX [] [] [] [15] [0,1,2,3,4,5,6,7,8,9,10,11,12,13,16,17,18,14,15,19,20,21] qK qK qK ?_
   refine aL rfl qN ?_
   refine kH hdrC rfl rfl qE fun v1 hv1=>?_
   refine kA Tryz.underlying5 0 rfl hv1 qE ?_
   refine bN (hpre v1) (Seals.B (l:=hdrC) 0 rfl hv1) (aX (.tail _ (.head _)) (aX (.head _) (bP _))) ?_
   rintro _ _ _ ⟨rfl,rfl,rfl⟩
   refine eV (v:=u) (l:=body++sm) (by repeat (first | exact .head _ | apply List.Mem.tail)) body.length (body++sm).length _ _ (kl:=.i64) (kh:=.i64) (.inr rfl) (.inl ⟨rfl,rfl⟩) qN (Nat.le_refl _) fun s1=>?_
   rw [List.take_length,List.drop_left' rfl]
   refine oJ (X:=sm) (.head _) ?_
   refine eV (v:=u) (l:=body++sm) (by repeat (first | exact .head _ | apply List.Mem.tail)) 0 body.length _ _ (kl:=.i64) (kh:=.i64) (.inl ⟨rfl,rfl⟩) (.inr rfl) (Nat.zero_le _) (by rw [List.length_append]; omega) fun s3=>?_
   rw [List.drop_zero,List.take_left' rfl]
   refine aQ (n9 (X:=sm) (by repeat (first | exact .head _ | apply List.Mem.tail))) fun p7 hp7=>?_
   obtain ⟨q7,rfl⟩:=hp7
   refine hrn _ _ _ _ ?_
   refine bN (cSum s3 body hbb qN) (aT _ _) (aX (by repeat (first | exact .head _ | apply List.Mem.tail)) (bP _)) ?_
   rintro _ _ _ ⟨rfl,rfl,rfl⟩
   refine aL rfl qN ?_
   exact bB () trivial trivial qF (dS (aD (fun F hF=>by
    rcases List.mem_cons.1 hF with rfl | hF
    ·repeat (first | exact .head _ | apply List.Mem.tail)
    ·cases hF)))
 rintro ⟨⟩ -
 dsimp only
 refine kM (Y:=Value) 7 (fun v=>([(2,p2),(3,p3),(4,p4),(5,p5),(6,p6)],[bL p6 1 1 (fun _=>.one (.int .i64 0)),bL p5 3 1 (fun _=>dyD (brV dyM l).1 (brV dyM l).2),bL p4 3 1 (fun _=>dyD (brV dyL l).1 (brV dyL l).2),bL p3 1 1 (fun _=>.one v),bL p2 5 1 (fun _=>cO j),ownH v (l.map htR)],[])) eQ qK ?_ ?_
 ·refine eV (v:=u) (l:=body++sm) (.head _) 56 body.length _ _ (kl:=.i64) (kh:=.i64) (.inr rfl) (.inr rfl) qN qN fun s1=>?_
  rw [List.take_left' rfl,show body.drop 56=leftC l by rw [hbe,← List.append_assoc]; exact List.drop_left' (by simp [hdrC,hjl])]
  refine oJ (X:=leftC l) (.head _) ?_
  refine aQ (n9 (X:=leftC l) (.head _)) fun p8 hp8=>?_
  obtain ⟨r,rfl⟩:=hp8
  refine eV (v:=u) (l:=body++sm) (.tail _ (.head _)) 8 56 _ _ (kl:=.i64) (kh:=.i64) (.inr rfl) (.inr rfl) qN qN fun s2=>?_
  rw [show ((body++sm).take 56).drop 8=gL j by
   rw [hbe,List.append_assoc,List.append_assoc,← List.append_assoc hdrC,List.take_left' (by simp [hdrC,hjl])]
   exact List.drop_left' rfl]
  refine bN (jRead s2 j hj) (aT _ _) (aX (.head _) (bP _)) ?_
  rintro _ _ _ ⟨rfl,x1,rfl,rfl⟩
  refine aH (d:=cO j) 5 rfl hp2 rfl qK (aA (d:=cO j) (.head _)) ?_
  refine aH (d:=.one (.int .i64 0)) 1 rfl hp6 rfl qK (aP rfl) ?_
  refine aW (u:=.int .i64 0) (e:=fun _=>.one (.int .i64 0)) 1 rfl hp6 rfl ?_
  refine aL rfl qN ?_
  refine rBelow r l.length 4 2048 (kK l++(dyB (brV dyL l)++(dyB (brV dyM l)++[]))) _ qE qE (by have:(256:Nat)^4=4294967296:=qE; omega) qN qE ((qH _).app ((nU _).app ((nU _).app (fun n hn=>by cases hn)))) ?_
  refine bD (X:=Nat×Value) (fun x=>([(2,p2),(3,p3),(4,p4),(5,p5),(6,p6),(8,cN r),(53,.int .i64 (l.length:Nat)),(54,.int .i64 (x.1:Nat))],[rdO r (kK (l.drop x.1)++(dyB (brV dyL l)++(dyB (brV dyM l)++[]))),bL p6 1 1 (fun _=>.one (.int .i64 0)),bL p5 3 1 (fun _=>dyD 0 0),bL p4 3 1 (fun _=>dyD 0 0),bL p3 1 1 (fun _=>.one x.2),bL p2 5 1 (fun _=>cO j),ownH x.2 ((l.take x.1).map htR)],[])) (fun x=>x.1≤l.length∧eQ x.2) (fun x=>l.length - x.1) rfl ?_ ?_
  ·refine bB (0,.slice none 0 0) ⟨Nat.zero_le _,eP⟩ trivial qF ?_
   exact aM (dG _ _ 14 fun i=>fG (([]:List Ht).getD i ht0)) (aM (bK (List.perm_middle (l₁:=[_,_,_,_,_,_]) (l₂:=[])).symm) (aD (fs':=[]) (fun F hF=>by cases hF)))
  rintro ⟨i,vl⟩ ⟨hi,hvl⟩
  simp only at hi hvl ⊢
  refine aO _ rfl (fun hlt=>?_) (fun hlt=>?_)
  ·have hil:i<l.length:=by omega
   have hki:=hk _ (eZ ht0 hil)
   have htk:(l.take (i+1)).map htR=(l.take i).map htR++[htR (l.getD i ht0)]:=by
    rw [List.take_add_one,List.getElem?_eq_getElem hil,gE,List.getElem?_eq_getElem hil,List.map_append]; rfl
   rw [hitsB_drop hil,List.append_assoc]
   refine eT [0,1,2,3,4,5] qK ?_
   refine cL 0 2 qK qK qK ?_ ?_
   ·refine cX [] [] [] [2] [0,1,2,3,4,5] qK qK qK ?_
    refine aW (u:=vl) (e:=fun _=>.one vl) 4 rfl hp3 rfl ?_
    refine rHit r (l.getD i ht0) (kK (l.drop (i+1))++(dyB (brV dyL l)++(dyB (brV dyM l)++[]))) _ hki.2.1 hki.2.2 ((qH _).app ((nU _).app ((nU _).app (fun n hn=>by cases hn)))) fun v1=>?_
    refine rG (size:=14) fG ht0 (htR (l.getD i ht0)) qE (aA (d:=fG (htR (l.getD i ht0))) (.head _)) rfl fun l1=>?_
    refine eU 6 rfl hvl (cI (.head _)) (by simp; omega) (by simp; omega) fun vl2 hvl2=>?_
    refine aH (d:=.one vl2) 4 rfl hp3 rfl qK (aP (by obtain ⟨_,_,_,rfl⟩:=hvl2; rfl)) ?_
    refine ar rfl qI ?_
    refine bB (i+1,vl2) ⟨qO,hvl2⟩ qO qF ?_
    rw [htk]
    exact aD (fs':=[]) (fun F hF=>by cases hF)
   ·refine cX [] [] [] [2] [1,2,0,3,4,5] qK qK qK ?_
    refine rHit r (l.getD i ht0) (kK (l.drop (i+1))++(dyB (brV dyL l)++(dyB (brV dyM l)++[]))) _ hki.2.1 hki.2.2 ((qH _).app ((nU _).app ((nU _).app (fun n hn=>by cases hn)))) fun v1=>?_
    refine aW (u:=vl) (e:=fun _=>.one vl) 4 rfl hp3 rfl ?_
    refine rG (size:=14) fG ht0 (htR (l.getD i ht0)) qE (aA (d:=fG (htR (l.getD i ht0))) (.head _)) rfl fun l1=>?_
    refine eU 6 rfl hvl (cI (.head _)) (by simp; omega) (by simp; omega) fun vl2 hvl2=>?_
    refine aH (d:=.one vl2) 4 rfl hp3 rfl qK (aP (by obtain ⟨_,_,_,rfl⟩:=hvl2; rfl)) ?_
    refine ar rfl qI ?_
    refine bB (i+1,vl2) ⟨qO,hvl2⟩ qO qF ?_
    rw [htk]
    exact aD (fs':=[]) (fun F hF=>by cases hF)
  ·obtain rfl:i=l.length:=by omega
   rw [List.take_length,List.drop_length,show kK []++(dyB (brV dyL l)++(dyB (brV dyM l)++[]))=dyB (brV dyL l)++(dyB (brV dyM l)++[]) from rfl]
   refine rDyad r (brV dyL l) (dyB (brV dyM l)++[]) _ 60 hd1 qE hn1 ⟨by omega,by omega⟩ ((nU _).app (fun n hn=>by cases hn)) fun v1=>?_
   refine aH (d:=dyD (brV dyL l).1 (brV dyL l).2) 3 rfl hp4 rfl qK (aA (.head _)) ?_
   refine rDyad r (brV dyM l) [] _ 60 hd2 qE hn2 ⟨by omega,by omega⟩ (fun n hn=>by cases hn) fun v2=>?_
   refine aH (d:=dyD (brV dyM l).1 (brV dyM l).2) 2 rfl hp5 rfl qK (aA (.head _)) ?_
   refine aF 0 rfl (aU r) ?_
   refine aK (d:=BD []) (e:=fun _=>BD []) 0 rfl (aG _) (nM _) fun u3=>?_
   refine aS (v:=u3) (n:=([]:List Nat).length) (size:=1) (.head _) fun _=>?_
   refine aL rfl (by show ¬ (((0:Nat):Int) > 0); omega) ?_
   exact bB vl hvl trivial qF (dS (aD (fs':=[]) (fun F hF=>by cases hF)))
 intro vl hvl
 refine kM (Y:=Unit) 1 (fun _=>([(2,p2),(3,p3),(4,p4),(5,p5),(6,p6)],[bL p6 1 1 (fun _=>.one (.int .i64 0)),bL p5 3 1 (fun _=>dyD (brV dyM l).1 (brV dyM l).2),bL p4 3 1 (fun _=>dyD (brV dyL l).1 (brV dyL l).2),bL p3 1 1 (fun _=>.one vl),bL p2 5 1 (fun _=>cO j),ownH vl (l.map htR)],[])) (fun _=>True) qK ?_ ?_
 ·refine eT [0,1,2,3,4,5,6,7,8] qK ?_
  refine cL 1 4 qK qK qK ?_ ?_
  ·refine cL 2 4 qK qK qK ?_ ?_
   ·refine cL 3 4 qK qK qK ?_ ?_
    ·refine cX [] [] [] [] [0,1,2,3,4,5,6,7,8] qK qK qK ?_
     refine aE (d:=cO j) 4 rfl hp2 rfl cZ fun y0=>?_
     refine aW (u:=vl) (e:=fun _=>.one vl) 3 rfl hp3 rfl ?_
     refine aE (d:=dyD (brV dyL l).1 (brV dyL l).2) 2 rfl hp4 rfl (cB _ _) fun y2=>?_
     refine aE (d:=dyD (brV dyM l).1 (brV dyM l).2) 1 rfl hp5 rfl (cB _ _) fun y3=>?_
     refine aH (d:=cO j) 4 rfl hp2 rfl qK (aA (d:=cO j) qM) ?_
     refine aH (d:=.one vl) 3 rfl hp3 rfl qK (aP (by obtain ⟨_,_,_,rfl⟩:=hvl; rfl)) ?_
     refine aH (d:=dyD (brV dyL l).1 (brV dyL l).2) 2 rfl hp4 rfl qK (aA (d:=dyD (brV dyL l).1 (brV dyL l).2) qM) ?_
     refine aH (d:=dyD (brV dyM l).1 (brV dyM l).2) 1 rfl hp5 rfl qK (aA (d:=dyD (brV dyM l).1 (brV dyM l).2) qM) ?_
     refine aH (d:=.one (.int .i64 0)) 0 rfl hp6 rfl qK (aP rfl) ?_
     exact bB () trivial trivial qF (aD (fs':=[]) (fun F hF=>by cases hF))
    ·refine cL 3 5 qK qK qK ?_ ?_
     ·refine cX [] [] [] [] [0,1,2,4,3,5,6,7,8] qK qK qK ?_
      refine aE (d:=cO j) 4 rfl hp2 rfl cZ fun y0=>?_
      refine aW (u:=vl) (e:=fun _=>.one vl) 3 rfl hp3 rfl ?_
      refine aE (d:=dyD (brV dyL l).1 (brV dyL l).2) 2 rfl hp4 rfl (cB _ _) fun y2=>?_
      refine aH (d:=cO j) 4 rfl hp2 rfl qK (aA (d:=cO j) qM) ?_
      refine aE (d:=dyD (brV dyM l).1 (brV dyM l).2) 1 rfl hp5 rfl (cB _ _) fun y3=>?_
      refine aH (d:=.one vl) 3 rfl hp3 rfl qK (aP (by obtain ⟨_,_,_,rfl⟩:=hvl; rfl)) ?_
      refine aH (d:=dyD (brV dyL l).1 (brV dyL l).2) 2 rfl hp4 rfl qK (aA (d:=dyD (brV dyL l).1 (brV dyL l).2) qM) ?_
      refine aH (d:=dyD (brV dyM l).1 (brV dyM l).2) 1 rfl hp5 rfl qK (aA (d:=dyD (brV dyM l).1 (brV dyM l).2) qM) ?_
      refine aH (d:=.one (.int .i64 0)) 0 rfl hp6 rfl qK (aP rfl) ?_
      exact bB () trivial trivial qF (aD (fs':=[]) (fun F hF=>by cases hF))
     ·refine cL 3 6 qK qK qK ?_ ?_
      ·refine cX [] [] [] [] [0,1,2,4,5,3,6,7,8] qK qK qK ?_
       refine aE (d:=cO j) 4 rfl hp2 rfl cZ fun y0=>?_
       refine aW (u:=vl) (e:=fun _=>.one vl) 3 rfl hp3 rfl ?_
       refine aE (d:=dyD (brV dyL l).1 (brV dyL l).2) 2 rfl hp4 rfl (cB _ _) fun y2=>?_
       refine aH (d:=cO j) 4 rfl hp2 rfl qK (aA (d:=cO j) qM) ?_
       refine aH (d:=.one vl) 3 rfl hp3 rfl qK (aP (by obtain ⟨_,_,_,rfl⟩:=hvl; rfl)) ?_
       refine aE (d:=dyD (brV dyM l).1 (brV dyM l).2) 1 rfl hp5 rfl (cB _ _) fun y3=>?_
       refine aH (d:=dyD (brV dyL l).1 (brV dyL l).2) 2 rfl hp4 rfl qK (aA (d:=dyD (brV dyL l).1 (brV dyL l).2) qM) ?_
       refine aH (d:=dyD (brV dyM l).1 (brV dyM l).2) 1 rfl hp5 rfl qK (aA (d:=dyD (brV dyM l).1 (brV dyM l).2) qM) ?_
       refine aH (d:=.one (.int .i64 0)) 0 rfl hp6 rfl qK (aP rfl) ?_
       exact bB () trivial trivial qF (aD (fs':=[]) (fun F hF=>by cases hF))
      ·refine cX [] [] [] [] [0,1,2,4,5,6,3,7,8] qK qK qK ?_
       refine aE (d:=cO j) 4 rfl hp2 rfl cZ fun y0=>?_
       refine aW (u:=vl) (e:=fun _=>.one vl) 3 rfl hp3 rfl ?_
       refine aE (d:=dyD (brV dyL l).1 (brV dyL l).2) 2 rfl hp4 rfl (cB _ _) fun y2=>?_
       refine aH (d:=cO j) 4 rfl hp2 rfl qK (aA (d:=cO j) qM) ?_
       refine aH (d:=.one vl) 3 rfl hp3 rfl qK (aP (by obtain ⟨_,_,_,rfl⟩:=hvl; rfl)) ?_
       refine aH (d:=dyD (brV dyL l).1 (brV dyL l).2) 2 rfl hp4 rfl qK (aA (d:=dyD (brV dyL l).1 (brV dyL l).2) qM) ?_
       refine aE (d:=dyD (brV dyM l).1 (brV dyM l).2) 1 rfl hp5 rfl (cB _ _) fun y3=>?_
       refine aH (d:=dyD (brV dyM l).1 (brV dyM l).2) 1 rfl hp5 rfl qK (aA (d:=dyD (brV dyM l).1 (brV dyM l).2) qM) ?_
       refine aH (d:=.one (.int .i64 0)) 0 rfl hp6 rfl qK (aP rfl) ?_
       exact bB () trivial trivial qF (aD (fs':=[]) (fun F hF=>by cases hF))
   ·refine cL 2 5 qK qK qK ?_ ?_
    ·refine cL 3 4 qK qK qK ?_ ?_
     ·refine cX [] [] [] [] [0,1,3,4,2,5,6,7,8] qK qK qK ?_
      refine aE (d:=cO j) 4 rfl hp2 rfl cZ fun y0=>?_
      refine aW (u:=vl) (e:=fun _=>.one vl) 3 rfl hp3 rfl ?_
      refine aE (d:=dyD (brV dyM l).1 (brV dyM l).2) 1 rfl hp5 rfl (cB _ _) fun y3=>?_
      refine aH (d:=cO j) 4 rfl hp2 rfl qK (aA (d:=cO j) qM) ?_
      refine aE (d:=dyD (brV dyL l).1 (brV dyL l).2) 2 rfl hp4 rfl (cB _ _) fun y2=>?_
      refine aH (d:=.one vl) 3 rfl hp3 rfl qK (aP (by obtain ⟨_,_,_,rfl⟩:=hvl; rfl)) ?_
      refine aH (d:=dyD (brV dyL l).1 (brV dyL l).2) 2 rfl hp4 rfl qK (aA (d:=dyD (brV dyL l).1 (brV dyL l).2) qM) ?_
      refine aH (d:=dyD (brV dyM l).1 (brV dyM l).2) 1 rfl hp5 rfl qK (aA (d:=dyD (brV dyM l).1 (brV dyM l).2) qM) ?_
      refine aH (d:=.one (.int .i64 0)) 0 rfl hp6 rfl qK (aP rfl) ?_
      exact bB () trivial trivial qF (aD (fs':=[]) (fun F hF=>by cases hF))
     ·refine cL 3 5 qK qK qK ?_ ?_
      ·refine cX [] [] [] [] [0,1,4,2,3,5,6,7,8] qK qK qK ?_
       refine aE (d:=cO j) 4 rfl hp2 rfl cZ fun y0=>?_
       refine aW (u:=vl) (e:=fun _=>.one vl) 3 rfl hp3 rfl ?_
       refine aH (d:=cO j) 4 rfl hp2 rfl qK (aA (d:=cO j) qM) ?_
       refine aE (d:=dyD (brV dyL l).1 (brV dyL l).2) 2 rfl hp4 rfl (cB _ _) fun y2=>?_
       refine aE (d:=dyD (brV dyM l).1 (brV dyM l).2) 1 rfl hp5 rfl (cB _ _) fun y3=>?_
       refine aH (d:=.one vl) 3 rfl hp3 rfl qK (aP (by obtain ⟨_,_,_,rfl⟩:=hvl; rfl)) ?_
       refine aH (d:=dyD (brV dyL l).1 (brV dyL l).2) 2 rfl hp4 rfl qK (aA (d:=dyD (brV dyL l).1 (brV dyL l).2) qM) ?_
       refine aH (d:=dyD (brV dyM l).1 (brV dyM l).2) 1 rfl hp5 rfl qK (aA (d:=dyD (brV dyM l).1 (brV dyM l).2) qM) ?_
       refine aH (d:=.one (.int .i64 0)) 0 rfl hp6 rfl qK (aP rfl) ?_
       exact bB () trivial trivial qF (aD (fs':=[]) (fun F hF=>by cases hF))
      ·refine cL 3 6 qK qK qK ?_ ?_
       ·refine cX [] [] [] [] [0,1,4,2,5,3,6,7,8] qK qK qK ?_
        refine aE (d:=cO j) 4 rfl hp2 rfl cZ fun y0=>?_
        refine aW (u:=vl) (e:=fun _=>.one vl) 3 rfl hp3 rfl ?_
        refine aH (d:=cO j) 4 rfl hp2 rfl qK (aA (d:=cO j) qM) ?_
        refine aE (d:=dyD (brV dyL l).1 (brV dyL l).2) 2 rfl hp4 rfl (cB _ _) fun y2=>?_
        refine aH (d:=.one vl) 3 rfl hp3 rfl qK (aP (by obtain ⟨_,_,_,rfl⟩:=hvl; rfl)) ?_
        refine aE (d:=dyD (brV dyM l).1 (brV dyM l).2) 1 rfl hp5 rfl (cB _ _) fun y3=>?_
        refine aH (d:=dyD (brV dyL l).1 (brV dyL l).2) 2 rfl hp4 rfl qK (aA (d:=dyD (brV dyL l).1 (brV dyL l).2) qM) ?_
        refine aH (d:=dyD (brV dyM l).1 (brV dyM l).2) 1 rfl hp5 rfl qK (aA (d:=dyD (brV dyM l).1 (brV dyM l).2) qM) ?_
        refine aH (d:=.one (.int .i64 0)) 0 rfl hp6 rfl qK (aP rfl) ?_
        exact bB () trivial trivial qF (aD (fs':=[]) (fun F hF=>by cases hF))
       ·refine cX [] [] [] [] [0,1,4,2,5,6,3,7,8] qK qK qK ?_
        refine aE (d:=cO j) 4 rfl hp2 rfl cZ fun y0=>?_
        refine aW (u:=vl) (e:=fun _=>.one vl) 3 rfl hp3 rfl ?_
        refine aH (d:=cO j) 4 rfl hp2 rfl qK (aA (d:=cO j) qM) ?_
        refine aE (d:=dyD (brV dyL l).1 (brV dyL l).2) 2 rfl hp4 rfl (cB _ _) fun y2=>?_
        refine aH (d:=.one vl) 3 rfl hp3 rfl qK (aP (by obtain ⟨_,_,_,rfl⟩:=hvl; rfl)) ?_
        refine aH (d:=dyD (brV dyL l).1 (brV dyL l).2) 2 rfl hp4 rfl qK (aA (d:=dyD (brV dyL l).1 (brV dyL l).2) qM) ?_
        refine aE (d:=dyD (brV dyM l).1 (brV dyM l).2) 1 rfl hp5 rfl (cB _ _) fun y3=>?_
        refine aH (d:=dyD (brV dyM l).1 (brV dyM l).2) 1 rfl hp5 rfl qK (aA (d:=dyD (brV dyM l).1 (brV dyM l).2) qM) ?_
        refine aH (d:=.one (.int .i64 0)) 0 rfl hp6 rfl qK (aP rfl) ?_
        exact bB () trivial trivial qF (aD (fs':=[]) (fun F hF=>by cases hF))
    ·refine cL 3 4 qK qK qK ?_ ?_
     ·refine cX [] [] [] [] [0,1,3,4,5,2,6,7,8] qK qK qK ?_
      refine aE (d:=cO j) 4 rfl hp2 rfl cZ fun y0=>?_
      refine aW (u:=vl) (e:=fun _=>.one vl) 3 rfl hp3 rfl ?_
      refine aE (d:=dyD (brV dyM l).1 (brV dyM l).2) 1 rfl hp5 rfl (cB _ _) fun y3=>?_
      refine aH (d:=cO j) 4 rfl hp2 rfl qK (aA (d:=cO j) qM) ?_
      refine aH (d:=.one vl) 3 rfl hp3 rfl qK (aP (by obtain ⟨_,_,_,rfl⟩:=hvl; rfl)) ?_
      refine aE (d:=dyD (brV dyL l).1 (brV dyL l).2) 2 rfl hp4 rfl (cB _ _) fun y2=>?_
      refine aH (d:=dyD (brV dyL l).1 (brV dyL l).2) 2 rfl hp4 rfl qK (aA (d:=dyD (brV dyL l).1 (brV dyL l).2) qM) ?_
      refine aH (d:=dyD (brV dyM l).1 (brV dyM l).2) 1 rfl hp5 rfl qK (aA (d:=dyD (brV dyM l).1 (brV dyM l).2) qM) ?_
      refine aH (d:=.one (.int .i64 0)) 0 rfl hp6 rfl qK (aP rfl) ?_
      exact bB () trivial trivial qF (aD (fs':=[]) (fun F hF=>by cases hF))
     ·refine cL 3 5 qK qK qK ?_ ?_
      ·refine cX [] [] [] [] [0,1,4,3,5,2,6,7,8] qK qK qK ?_
       refine aE (d:=cO j) 4 rfl hp2 rfl cZ fun y0=>?_
       refine aW (u:=vl) (e:=fun _=>.one vl) 3 rfl hp3 rfl ?_
       refine aH (d:=cO j) 4 rfl hp2 rfl qK (aA (d:=cO j) qM) ?_
       refine aE (d:=dyD (brV dyM l).1 (brV dyM l).2) 1 rfl hp5 rfl (cB _ _) fun y3=>?_
       refine aH (d:=.one vl) 3 rfl hp3 rfl qK (aP (by obtain ⟨_,_,_,rfl⟩:=hvl; rfl)) ?_
       refine aE (d:=dyD (brV dyL l).1 (brV dyL l).2) 2 rfl hp4 rfl (cB _ _) fun y2=>?_
       refine aH (d:=dyD (brV dyL l).1 (brV dyL l).2) 2 rfl hp4 rfl qK (aA (d:=dyD (brV dyL l).1 (brV dyL l).2) qM) ?_
       refine aH (d:=dyD (brV dyM l).1 (brV dyM l).2) 1 rfl hp5 rfl qK (aA (d:=dyD (brV dyM l).1 (brV dyM l).2) qM) ?_
       refine aH (d:=.one (.int .i64 0)) 0 rfl hp6 rfl qK (aP rfl) ?_
       exact bB () trivial trivial qF (aD (fs':=[]) (fun F hF=>by cases hF))
      ·refine cL 3 6 qK qK qK ?_ ?_
       ·refine cX [] [] [] [] [0,1,4,5,2,3,6,7,8] qK qK qK ?_
        refine aE (d:=cO j) 4 rfl hp2 rfl cZ fun y0=>?_
        refine aW (u:=vl) (e:=fun _=>.one vl) 3 rfl hp3 rfl ?_
        refine aH (d:=cO j) 4 rfl hp2 rfl qK (aA (d:=cO j) qM) ?_
        refine aH (d:=.one vl) 3 rfl hp3 rfl qK (aP (by obtain ⟨_,_,_,rfl⟩:=hvl; rfl)) ?_
        refine aE (d:=dyD (brV dyL l).1 (brV dyL l).2) 2 rfl hp4 rfl (cB _ _) fun y2=>?_
        refine aE (d:=dyD (brV dyM l).1 (brV dyM l).2) 1 rfl hp5 rfl (cB _ _) fun y3=>?_
        refine aH (d:=dyD (brV dyL l).1 (brV dyL l).2) 2 rfl hp4 rfl qK (aA (d:=dyD (brV dyL l).1 (brV dyL l).2) qM) ?_
        refine aH (d:=dyD (brV dyM l).1 (brV dyM l).2) 1 rfl hp5 rfl qK (aA (d:=dyD (brV dyM l).1 (brV dyM l).2) qM) ?_
        refine aH (d:=.one (.int .i64 0)) 0 rfl hp6 rfl qK (aP rfl) ?_
        exact bB () trivial trivial qF (aD (fs':=[]) (fun F hF=>by cases hF))
       ·refine cX [] [] [] [] [0,1,4,5,2,6,3,7,8] qK qK qK ?_
        refine aE (d:=cO j) 4 rfl hp2 rfl cZ fun y0=>?_
        refine aW (u:=vl) (e:=fun _=>.one vl) 3 rfl hp3 rfl ?_
        refine aH (d:=cO j) 4 rfl hp2 rfl qK (aA (d:=cO j) qM) ?_
        refine aH (d:=.one vl) 3 rfl hp3 rfl qK (aP (by obtain ⟨_,_,_,rfl⟩:=hvl; rfl)) ?_
        refine aE (d:=dyD (brV dyL l).1 (brV dyL l).2) 2 rfl hp4 rfl (cB _ _) fun y2=>?_
        refine aH (d:=dyD (brV dyL l).1 (brV dyL l).2) 2 rfl hp4 rfl qK (aA (d:=dyD (brV dyL l).1 (brV dyL l).2) qM) ?_
        refine aE (d:=dyD (brV dyM l).1 (brV dyM l).2) 1 rfl hp5 rfl (cB _ _) fun y3=>?_
        refine aH (d:=dyD (brV dyM l).1 (brV dyM l).2) 1 rfl hp5 rfl qK (aA (d:=dyD (brV dyM l).1 (brV dyM l).2) qM) ?_
        refine aH (d:=.one (.int .i64 0)) 0 rfl hp6 rfl qK (aP rfl) ?_
        exact bB () trivial trivial qF (aD (fs':=[]) (fun F hF=>by cases hF))
  ·refine cL 2 4 qK qK qK ?_ ?_
   ·refine cL 3 4 qK qK qK ?_ ?_
    ·refine cX [] [] [] [] [0,2,3,4,1,5,6,7,8] qK qK qK ?_
     refine aE (d:=cO j) 4 rfl hp2 rfl cZ fun y0=>?_
     refine aE (d:=dyD (brV dyL l).1 (brV dyL l).2) 2 rfl hp4 rfl (cB _ _) fun y2=>?_
     refine aE (d:=dyD (brV dyM l).1 (brV dyM l).2) 1 rfl hp5 rfl (cB _ _) fun y3=>?_
     refine aH (d:=cO j) 4 rfl hp2 rfl qK (aA (d:=cO j) qM) ?_
     refine aW (u:=vl) (e:=fun _=>.one vl) 3 rfl hp3 rfl ?_
     refine aH (d:=.one vl) 3 rfl hp3 rfl qK (aP (by obtain ⟨_,_,_,rfl⟩:=hvl; rfl)) ?_
     refine aH (d:=dyD (brV dyL l).1 (brV dyL l).2) 2 rfl hp4 rfl qK (aA (d:=dyD (brV dyL l).1 (brV dyL l).2) qM) ?_
     refine aH (d:=dyD (brV dyM l).1 (brV dyM l).2) 1 rfl hp5 rfl qK (aA (d:=dyD (brV dyM l).1 (brV dyM l).2) qM) ?_
     refine aH (d:=.one (.int .i64 0)) 0 rfl hp6 rfl qK (aP rfl) ?_
     exact bB () trivial trivial qF (aD (fs':=[]) (fun F hF=>by cases hF))
    ·refine cL 3 5 qK qK qK ?_ ?_
     ·refine cX [] [] [] [] [0,2,4,1,3,5,6,7,8] qK qK qK ?_
      refine aE (d:=cO j) 4 rfl hp2 rfl cZ fun y0=>?_
      refine aE (d:=dyD (brV dyL l).1 (brV dyL l).2) 2 rfl hp4 rfl (cB _ _) fun y2=>?_
      refine aH (d:=cO j) 4 rfl hp2 rfl qK (aA (d:=cO j) qM) ?_
      refine aW (u:=vl) (e:=fun _=>.one vl) 3 rfl hp3 rfl ?_
      refine aE (d:=dyD (brV dyM l).1 (brV dyM l).2) 1 rfl hp5 rfl (cB _ _) fun y3=>?_
      refine aH (d:=.one vl) 3 rfl hp3 rfl qK (aP (by obtain ⟨_,_,_,rfl⟩:=hvl; rfl)) ?_
      refine aH (d:=dyD (brV dyL l).1 (brV dyL l).2) 2 rfl hp4 rfl qK (aA (d:=dyD (brV dyL l).1 (brV dyL l).2) qM) ?_
      refine aH (d:=dyD (brV dyM l).1 (brV dyM l).2) 1 rfl hp5 rfl qK (aA (d:=dyD (brV dyM l).1 (brV dyM l).2) qM) ?_
      refine aH (d:=.one (.int .i64 0)) 0 rfl hp6 rfl qK (aP rfl) ?_
      exact bB () trivial trivial qF (aD (fs':=[]) (fun F hF=>by cases hF))
     ·refine cL 3 6 qK qK qK ?_ ?_
      ·refine cX [] [] [] [] [0,2,4,1,5,3,6,7,8] qK qK qK ?_
       refine aE (d:=cO j) 4 rfl hp2 rfl cZ fun y0=>?_
       refine aE (d:=dyD (brV dyL l).1 (brV dyL l).2) 2 rfl hp4 rfl (cB _ _) fun y2=>?_
       refine aH (d:=cO j) 4 rfl hp2 rfl qK (aA (d:=cO j) qM) ?_
       refine aW (u:=vl) (e:=fun _=>.one vl) 3 rfl hp3 rfl ?_
       refine aH (d:=.one vl) 3 rfl hp3 rfl qK (aP (by obtain ⟨_,_,_,rfl⟩:=hvl; rfl)) ?_
       refine aE (d:=dyD (brV dyM l).1 (brV dyM l).2) 1 rfl hp5 rfl (cB _ _) fun y3=>?_
       refine aH (d:=dyD (brV dyL l).1 (brV dyL l).2) 2 rfl hp4 rfl qK (aA (d:=dyD (brV dyL l).1 (brV dyL l).2) qM) ?_
       refine aH (d:=dyD (brV dyM l).1 (brV dyM l).2) 1 rfl hp5 rfl qK (aA (d:=dyD (brV dyM l).1 (brV dyM l).2) qM) ?_
       refine aH (d:=.one (.int .i64 0)) 0 rfl hp6 rfl qK (aP rfl) ?_
       exact bB () trivial trivial qF (aD (fs':=[]) (fun F hF=>by cases hF))
      ·refine cX [] [] [] [] [0,2,4,1,5,6,3,7,8] qK qK qK ?_
       refine aE (d:=cO j) 4 rfl hp2 rfl cZ fun y0=>?_
       refine aE (d:=dyD (brV dyL l).1 (brV dyL l).2) 2 rfl hp4 rfl (cB _ _) fun y2=>?_
       refine aH (d:=cO j) 4 rfl hp2 rfl qK (aA (d:=cO j) qM) ?_
       refine aW (u:=vl) (e:=fun _=>.one vl) 3 rfl hp3 rfl ?_
       refine aH (d:=.one vl) 3 rfl hp3 rfl qK (aP (by obtain ⟨_,_,_,rfl⟩:=hvl; rfl)) ?_
       refine aH (d:=dyD (brV dyL l).1 (brV dyL l).2) 2 rfl hp4 rfl qK (aA (d:=dyD (brV dyL l).1 (brV dyL l).2) qM) ?_
       refine aE (d:=dyD (brV dyM l).1 (brV dyM l).2) 1 rfl hp5 rfl (cB _ _) fun y3=>?_
       refine aH (d:=dyD (brV dyM l).1 (brV dyM l).2) 1 rfl hp5 rfl qK (aA (d:=dyD (brV dyM l).1 (brV dyM l).2) qM) ?_
       refine aH (d:=.one (.int .i64 0)) 0 rfl hp6 rfl qK (aP rfl) ?_
       exact bB () trivial trivial qF (aD (fs':=[]) (fun F hF=>by cases hF))
   ·refine cL 2 5 qK qK qK ?_ ?_
    ·refine cL 3 4 qK qK qK ?_ ?_
     ·refine cX [] [] [] [] [0,3,4,1,2,5,6,7,8] qK qK qK ?_
      refine aE (d:=cO j) 4 rfl hp2 rfl cZ fun y0=>?_
      refine aE (d:=dyD (brV dyM l).1 (brV dyM l).2) 1 rfl hp5 rfl (cB _ _) fun y3=>?_
      refine aH (d:=cO j) 4 rfl hp2 rfl qK (aA (d:=cO j) qM) ?_
      refine aW (u:=vl) (e:=fun _=>.one vl) 3 rfl hp3 rfl ?_
      refine aE (d:=dyD (brV dyL l).1 (brV dyL l).2) 2 rfl hp4 rfl (cB _ _) fun y2=>?_
      refine aH (d:=.one vl) 3 rfl hp3 rfl qK (aP (by obtain ⟨_,_,_,rfl⟩:=hvl; rfl)) ?_
      refine aH (d:=dyD (brV dyL l).1 (brV dyL l).2) 2 rfl hp4 rfl qK (aA (d:=dyD (brV dyL l).1 (brV dyL l).2) qM) ?_
      refine aH (d:=dyD (brV dyM l).1 (brV dyM l).2) 1 rfl hp5 rfl qK (aA (d:=dyD (brV dyM l).1 (brV dyM l).2) qM) ?_
      refine aH (d:=.one (.int .i64 0)) 0 rfl hp6 rfl qK (aP rfl) ?_
      exact bB () trivial trivial qF (aD (fs':=[]) (fun F hF=>by cases hF))
     ·refine cL 3 5 qK qK qK ?_ ?_
      ·refine cX [] [] [] [] [0,4,1,2,3,5,6,7,8] qK qK qK ?_
       refine aE (d:=cO j) 4 rfl hp2 rfl cZ fun y0=>?_
       refine aH (d:=cO j) 4 rfl hp2 rfl qK (aA (d:=cO j) qM) ?_
       refine aW (u:=vl) (e:=fun _=>.one vl) 3 rfl hp3 rfl ?_
       refine aE (d:=dyD (brV dyL l).1 (brV dyL l).2) 2 rfl hp4 rfl (cB _ _) fun y2=>?_
       refine aE (d:=dyD (brV dyM l).1 (brV dyM l).2) 1 rfl hp5 rfl (cB _ _) fun y3=>?_
       refine aH (d:=.one vl) 3 rfl hp3 rfl qK (aP (by obtain ⟨_,_,_,rfl⟩:=hvl; rfl)) ?_
       refine aH (d:=dyD (brV dyL l).1 (brV dyL l).2) 2 rfl hp4 rfl qK (aA (d:=dyD (brV dyL l).1 (brV dyL l).2) qM) ?_
       refine aH (d:=dyD (brV dyM l).1 (brV dyM l).2) 1 rfl hp5 rfl qK (aA (d:=dyD (brV dyM l).1 (brV dyM l).2) qM) ?_
       refine aH (d:=.one (.int .i64 0)) 0 rfl hp6 rfl qK (aP rfl) ?_
       exact bB () trivial trivial qF (aD (fs':=[]) (fun F hF=>by cases hF))
      ·refine cL 3 6 qK qK qK ?_ ?_
       ·refine cX [] [] [] [] [0,4,1,2,5,3,6,7,8] qK qK qK ?_
        refine aE (d:=cO j) 4 rfl hp2 rfl cZ fun y0=>?_
        refine aH (d:=cO j) 4 rfl hp2 rfl qK (aA (d:=cO j) qM) ?_
        refine aW (u:=vl) (e:=fun _=>.one vl) 3 rfl hp3 rfl ?_
        refine aE (d:=dyD (brV dyL l).1 (brV dyL l).2) 2 rfl hp4 rfl (cB _ _) fun y2=>?_
        refine aH (d:=.one vl) 3 rfl hp3 rfl qK (aP (by obtain ⟨_,_,_,rfl⟩:=hvl; rfl)) ?_
        refine aE (d:=dyD (brV dyM l).1 (brV dyM l).2) 1 rfl hp5 rfl (cB _ _) fun y3=>?_
        refine aH (d:=dyD (brV dyL l).1 (brV dyL l).2) 2 rfl hp4 rfl qK (aA (d:=dyD (brV dyL l).1 (brV dyL l).2) qM) ?_
        refine aH (d:=dyD (brV dyM l).1 (brV dyM l).2) 1 rfl hp5 rfl qK (aA (d:=dyD (brV dyM l).1 (brV dyM l).2) qM) ?_
        refine aH (d:=.one (.int .i64 0)) 0 rfl hp6 rfl qK (aP rfl) ?_
        exact bB () trivial trivial qF (aD (fs':=[]) (fun F hF=>by cases hF))
       ·refine cX [] [] [] [] [0,4,1,2,5,6,3,7,8] qK qK qK ?_
        refine aE (d:=cO j) 4 rfl hp2 rfl cZ fun y0=>?_
        refine aH (d:=cO j) 4 rfl hp2 rfl qK (aA (d:=cO j) qM) ?_
        refine aW (u:=vl) (e:=fun _=>.one vl) 3 rfl hp3 rfl ?_
        refine aE (d:=dyD (brV dyL l).1 (brV dyL l).2) 2 rfl hp4 rfl (cB _ _) fun y2=>?_
        refine aH (d:=.one vl) 3 rfl hp3 rfl qK (aP (by obtain ⟨_,_,_,rfl⟩:=hvl; rfl)) ?_
        refine aH (d:=dyD (brV dyL l).1 (brV dyL l).2) 2 rfl hp4 rfl qK (aA (d:=dyD (brV dyL l).1 (brV dyL l).2) qM) ?_
        refine aE (d:=dyD (brV dyM l).1 (brV dyM l).2) 1 rfl hp5 rfl (cB _ _) fun y3=>?_
        refine aH (d:=dyD (brV dyM l).1 (brV dyM l).2) 1 rfl hp5 rfl qK (aA (d:=dyD (brV dyM l).1 (brV dyM l).2) qM) ?_
        refine aH (d:=.one (.int .i64 0)) 0 rfl hp6 rfl qK (aP rfl) ?_
        exact bB () trivial trivial qF (aD (fs':=[]) (fun F hF=>by cases hF))
    ·refine cL 3 4 qK qK qK ?_ ?_
     ·refine cX [] [] [] [] [0,3,4,1,5,2,6,7,8] qK qK qK ?_
      refine aE (d:=cO j) 4 rfl hp2 rfl cZ fun y0=>?_
      refine aE (d:=dyD (brV dyM l).1 (brV dyM l).2) 1 rfl hp5 rfl (cB _ _) fun y3=>?_
      refine aH (d:=cO j) 4 rfl hp2 rfl qK (aA (d:=cO j) qM) ?_
      refine aW (u:=vl) (e:=fun _=>.one vl) 3 rfl hp3 rfl ?_
      refine aH (d:=.one vl) 3 rfl hp3 rfl qK (aP (by obtain ⟨_,_,_,rfl⟩:=hvl; rfl)) ?_
      refine aE (d:=dyD (brV dyL l).1 (brV dyL l).2) 2 rfl hp4 rfl (cB _ _) fun y2=>?_
      refine aH (d:=dyD (brV dyL l).1 (brV dyL l).2) 2 rfl hp4 rfl qK (aA (d:=dyD (brV dyL l).1 (brV dyL l).2) qM) ?_
      refine aH (d:=dyD (brV dyM l).1 (brV dyM l).2) 1 rfl hp5 rfl qK (aA (d:=dyD (brV dyM l).1 (brV dyM l).2) qM) ?_
      refine aH (d:=.one (.int .i64 0)) 0 rfl hp6 rfl qK (aP rfl) ?_
      exact bB () trivial trivial qF (aD (fs':=[]) (fun F hF=>by cases hF))
     ·refine cL 3 5 qK qK qK ?_ ?_
      ·refine cX [] [] [] [] [0,4,1,3,5,2,6,7,8] qK qK qK ?_
       refine aE (d:=cO j) 4 rfl hp2 rfl cZ fun y0=>?_
       refine aH (d:=cO j) 4 rfl hp2 rfl qK (aA (d:=cO j) qM) ?_
       refine aW (u:=vl) (e:=fun _=>.one vl) 3 rfl hp3 rfl ?_
       refine aE (d:=dyD (brV dyM l).1 (brV dyM l).2) 1 rfl hp5 rfl (cB _ _) fun y3=>?_
       refine aH (d:=.one vl) 3 rfl hp3 rfl qK (aP (by obtain ⟨_,_,_,rfl⟩:=hvl; rfl)) ?_
       refine aE (d:=dyD (brV dyL l).1 (brV dyL l).2) 2 rfl hp4 rfl (cB _ _) fun y2=>?_
       refine aH (d:=dyD (brV dyL l).1 (brV dyL l).2) 2 rfl hp4 rfl qK (aA (d:=dyD (brV dyL l).1 (brV dyL l).2) qM) ?_
       refine aH (d:=dyD (brV dyM l).1 (brV dyM l).2) 1 rfl hp5 rfl qK (aA (d:=dyD (brV dyM l).1 (brV dyM l).2) qM) ?_
       refine aH (d:=.one (.int .i64 0)) 0 rfl hp6 rfl qK (aP rfl) ?_
       exact bB () trivial trivial qF (aD (fs':=[]) (fun F hF=>by cases hF))
      ·refine cL 3 6 qK qK qK ?_ ?_
       ·refine cX [] [] [] [] [0,4,1,5,2,3,6,7,8] qK qK qK ?_
        refine aE (d:=cO j) 4 rfl hp2 rfl cZ fun y0=>?_
        refine aH (d:=cO j) 4 rfl hp2 rfl qK (aA (d:=cO j) qM) ?_
        refine aW (u:=vl) (e:=fun _=>.one vl) 3 rfl hp3 rfl ?_
        refine aH (d:=.one vl) 3 rfl hp3 rfl qK (aP (by obtain ⟨_,_,_,rfl⟩:=hvl; rfl)) ?_
        refine aE (d:=dyD (brV dyL l).1 (brV dyL l).2) 2 rfl hp4 rfl (cB _ _) fun y2=>?_
        refine aE (d:=dyD (brV dyM l).1 (brV dyM l).2) 1 rfl hp5 rfl (cB _ _) fun y3=>?_
        refine aH (d:=dyD (brV dyL l).1 (brV dyL l).2) 2 rfl hp4 rfl qK (aA (d:=dyD (brV dyL l).1 (brV dyL l).2) qM) ?_
        refine aH (d:=dyD (brV dyM l).1 (brV dyM l).2) 1 rfl hp5 rfl qK (aA (d:=dyD (brV dyM l).1 (brV dyM l).2) qM) ?_
        refine aH (d:=.one (.int .i64 0)) 0 rfl hp6 rfl qK (aP rfl) ?_
        exact bB () trivial trivial qF (aD (fs':=[]) (fun F hF=>by cases hF))
       ·refine cX [] [] [] [] [0,4,1,5,2,6,3,7,8] qK qK qK ?_
        refine aE (d:=cO j) 4 rfl hp2 rfl cZ fun y0=>?_
        refine aH (d:=cO j) 4 rfl hp2 rfl qK (aA (d:=cO j) qM) ?_
        refine aW (u:=vl) (e:=fun _=>.one vl) 3 rfl hp3 rfl ?_
        refine aH (d:=.one vl) 3 rfl hp3 rfl qK (aP (by obtain ⟨_,_,_,rfl⟩:=hvl; rfl)) ?_
        refine aE (d:=dyD (brV dyL l).1 (brV dyL l).2) 2 rfl hp4 rfl (cB _ _) fun y2=>?_
        refine aH (d:=dyD (brV dyL l).1 (brV dyL l).2) 2 rfl hp4 rfl qK (aA (d:=dyD (brV dyL l).1 (brV dyL l).2) qM) ?_
        refine aE (d:=dyD (brV dyM l).1 (brV dyM l).2) 1 rfl hp5 rfl (cB _ _) fun y3=>?_
        refine aH (d:=dyD (brV dyM l).1 (brV dyM l).2) 1 rfl hp5 rfl qK (aA (d:=dyD (brV dyM l).1 (brV dyM l).2) qM) ?_
        refine aH (d:=.one (.int .i64 0)) 0 rfl hp6 rfl qK (aP rfl) ?_
        exact bB () trivial trivial qF (aD (fs':=[]) (fun F hF=>by cases hF))
 rintro ⟨⟩ -
 dsimp only
 refine SemC.of qK ?_
 refine aE (d:=cO j) 4 rfl hp2 rfl cZ fun z1=>?_
 refine aW (u:=vl) (e:=fun _=>.one vl) 3 rfl hp3 rfl ?_
 refine aE (d:=dyD (brV dyL l).1 (brV dyL l).2) 2 rfl hp4 rfl (cB _ _) fun z2=>?_
 refine aE (d:=dyD (brV dyM l).1 (brV dyM l).2) 1 rfl hp5 rfl (cB _ _) fun z3=>?_
 refine aW (u:=.int .i64 0) (e:=fun _=>.one (.int .i64 0)) 0 rfl hp6 rfl ?_
 refine fin ⟨z1,vl,z2,z3,rfl,hvl,rfl,rfl⟩ (aM (dS (dS (dS (dS (aV 0 _ _))))) (aD (fun F hF=>?_)))
 rcases List.mem_cons.1 hF with rfl | hF
 ·exact .tail _ (.tail _ (.head _))
 rcases List.mem_cons.1 hF with rfl | hF
 ·exact .tail _ (.head _)
 rcases List.mem_cons.1 hF with rfl | hF
 ·exact .head _
 cases hF
theorem cSame (v w:Value) (lo hi q:Int) (a:Nat) (hlo:sz lo a) (hhi:sz hi a) (ha:a≤100000):aY Tryz.prog 31 [v,w] [(v,aN lo hi q),(w,aN lo hi q)] (fun r os fs=>os=[]∧fs=[]∧r=.bool true):=by
 refine mV Tryz.func31 ?_
 refine aQ (aA (d:=aN lo hi q) qM) fun p2 hp2=>?_
 refine aQ (aA (d:=aN lo hi q) qM) fun p3 hp3=>?_
 refine aF 1 rfl hp2 ?_
 refine aK (d:=zd lo) (e:=fun _=>aN lo hi q) 1 rfl (aJ (aG _)) (aR _) fun u1=>?_
 refine aF 0 rfl hp3 ?_
 refine aK (d:=zd lo) (e:=fun _=>aN lo hi q) 0 rfl (aJ (aG _)) (aR _) fun u2=>?_
 refine bN (zSame u1 u2 lo lo a hlo hlo qN) (aT _ _) (aX (.tail _ (.head _)) (aX (.head _) (bP _))) ?_
 rintro _ _ _ ⟨rfl,rfl,rfl⟩
 rw [decide_eq_true (rfl:lo=lo)]
 refine aF 1 rfl hp2 ?_
 refine aK (d:=zd hi) (e:=fun _=>aN lo hi q) 1 rfl (aC (aJ (aG _))) (aR _) fun u3=>?_
 refine aF 0 rfl hp3 ?_
 refine aK (d:=zd hi) (e:=fun _=>aN lo hi q) 0 rfl (aC (aJ (aG _))) (aR _) fun u4=>?_
 refine bN (zSame u3 u4 hi hi a hhi hhi qN) (aT _ _) (aX (.tail _ (.head _)) (aX (.head _) (bP _))) ?_
 rintro _ _ _ ⟨rfl,rfl,rfl⟩
 rw [decide_eq_true (rfl:hi=hi)]
 refine aF 1 rfl hp2 ?_
 refine aB (u:=.int .i64 q) (e:=fun _=>aN lo hi q) 1 rfl (aC (aC (aG _))) ?_
 refine aF 0 rfl hp3 ?_
 refine aB (u:=.int .i64 q) (e:=fun _=>aN lo hi q) 0 rfl (aC (aC (aG _))) ?_
 refine bG rfl qN ?_
 exact fin ⟨rfl,rfl,rfl⟩ (dS (dS (aD (fs':=[]) (fun F hF=>by cases hF))))
theorem lY {P:Program} {ty:TypeId} {x v:Value} {k size:Nat} {e:Nat→Dat} {d d':Dat} {os:List Own} {fs:List bA} {K:cE} (pos:Nat) (h:bQ os pos=some (bL v size 1 e)) (hv:eQ v) (hr0:Rep k (e 0) d d') (hs0:size=(e 0).cells)
  (ht:(P.info? ty).map (·.size)=some d.cells) (hx:Reads os fs x d) (k':K undef (setOwn os pos (bL v size 1 fun _=>d')) fs):oT P ty (jP v k) x os fs K:=by
 refine ⟨fun G w hw=>?_⟩
 have hk:k+d.cells≤size:=by rw [hs0]; exact hr0.1
 have hd0:0<size:=by rw [hs0]; exact Dat.cells_pos _
 obtain ⟨cx,x1,x2⟩:=hx G w hw
 have hlx:cx.length=d.cells:=dM x1
 rcases pP hw h hv hd0 with ⟨_,h2⟩ | ⟨r,cap,rfl,b1,b2,b3,cur,t,b4,b5,b6⟩
 ·omega
 obtain ⟨cs,c1,c2,c3⟩:=b6 0 Nat.zero_lt_one
 have hcs:1*size≤cap*size:=Nat.mul_le_mul_right _ b2
 have hfit:k+cx.length≤cur.size:=by rw [b5,hlx]; omega
 have he:jP (.slice (some ⟨r,0,none⟩) 1 cap) k=.pointer (some ⟨r,k,none⟩):=by simp [jP,eI]
 rw [he,tS (m7 (cs:=cx) x2 (RdC.oneCells x1) (by rw [hlx]; exact ht) b4 hfit)]
 refine ⟨_,_,k',?_⟩
 have hhas:(bL (.slice (some ⟨r,0,none⟩) 1 cap) size 1 e).has r:=⟨0,Nat.zero_lt_one,rfl⟩
 refine hw.step h rfl rfl rfl qP (fun q hq hno=>setRow_other w r q _ fun e'=>hno (e' ▸ hhas)) (fun b hb=>.inl hb) (fun a b c ha hb _ _=>by
  have ha':a<1:=ha
  have hb':b<1:=hb
  omega) fun mono y hy=>?_
 refine .inr (.inl ⟨r,cap,rfl,b1,b2,b3,_,t,b4.set (by simp only [List.size_toArray,List.length_append,List.length_take,List.length_drop,Array.length_toList]; omega),?_,fun i hi=>?_⟩)
 ·simp only [List.size_toArray,List.length_append,List.length_take,List.length_drop,Array.length_toList] at hfit ⊢
  show _=cap*size
  omega
 ·have hi0:i=0:=by have:i<1:=hi; omega
  subst hi0
  have hm:=mono _ cs c1
  have hmx:=mono _ cx x1
  refine ⟨cs.take k++cx++cs.drop (k+cx.length),hr0.2.2 _ _ _ _ hm hmx,by
   show _=size
   simp only [List.length_append,List.length_take,List.length_drop]; omega,fun j hj=>?_⟩
  rw [List.getElem?_toArray,kZ _ _ _ _ (by simpa using hfit)]
  have hj':j<size:=hj
  have c3'':cur[0*size+j]? = cs[j]? := c3 j hj'
  rw [Nat.zero_mul,Nat.zero_add] at c3''
  show (if k≤0*size+j∧0*size+j<k+cx.length then cx[0*size+j - k]? else cur.toList[0*size+j]?)=_
  have c4:cur.toList[j]? = cs[j]? := by rw [Array.getElem?_toList]; exact c3''
  rw [Nat.zero_mul,Nat.zero_add,kZ cs cx k j qN,c4]
set_option maxHeartbeats 4000000 in
theorem cCheck {LV:Int→Nat→Int→Lk7} (hLo:mP LV) (u:Value) (j:Jb) (h:Ht) (hj:oO LV j) (hC:qX [h]) (hn1:NrD (brV dyL [h])) (hn2:NrD (brV dyM [h])) (hBl:(qB j [h]).length≤900000)
  (hp:h.b=pat j.e j.a) (hl:h.l=LV j.f h.b j.m) (hh:h.l.h=true) :
  aY Tryz.prog 13 [u] [(u,BD (qB j [h]))] (fun x os fs=>os=[]∧fs=[]∧x=.int .i64 0):=by
 have hok:=hj.1
 have hab:=hok.ab
 have h64:=hok.in64
 have hE:=hok.e
 have hM:=hok.m
 have hF:=hok.f
 have hb52:=hok.b
 have hpi:=nG (e:=j.e) (i:=j.a) hE qN
 have hpj:=nG (e:=j.e) (i:=j.b - 1) hE qN
 have hple:pat j.e j.a≤pat j.e (j.b - 1):=by unfold pat; omega
 have hRun:=hLo.run j.f h.b j.m hF qN qN hM
 rw [← hl] at hRun
 have hkh:=(hC.2 h (List.mem_singleton.2 rfl))
 have hd1:DyOk (brV dyL [h]).1 (brV dyL [h]).2 60:=sG fun x hx=>dyL_ok (hC.2 x hx).1
 have hd2:DyOk (brV dyM [h]).1 (brV dyM [h]).2 60:=sG fun x hx=>dyM_ok (hC.2 x hx).1
 have hRd:=fun u=>cRead u j [h] hok hC hn1 hn2 hBl
 refine uO Tryz.func13 qK rfl (Nat.le_of_ble_eq_true rfl) ?_
 refine SemC.of qK ?_
 refine cF (hRd u) ?_
 rintro _ _ _ ⟨a,v,c,d,rfl,hv,rfl,rfl⟩
 refine aI (d:=cO ⟨0,0,0,0,0⟩) fun p3 hp3=>?_
 refine aI (d:=dyD 0 0) fun p5 hp5=>?_
 refine aI (d:=dyD 0 0) fun p6 hp6=>?_
 refine aH (d:=cO j) 2 rfl hp3 rfl qK (aA (d:=cO j) (.head _)) ?_
 refine aH (d:=dyD (brV dyL [h]).1 (brV dyL [h]).2) 1 rfl hp5 rfl qK (aA (.tail _ (.head _))) ?_
 refine aH (d:=dyD (brV dyM [h]).1 (brV dyM [h]).2) 0 rfl hp6 rfl qK (aA (.tail _ (.tail _ (.head _)))) ?_
 refine aL rfl qN ?_
 refine aE (d:=cO j) 2 rfl hp3 rfl cZ fun u1=>?_
 refine bN (jValid hLo u1 j h64) (aT _ _) (aX (.head _) (bP _)) ?_
 rintro _ _ _ ⟨rfl,rfl,rfl⟩
 rw [if_pos hj]
 refine aL rfl qN ?_
 refine bC [0,1,2,4,5,6,7,3,8,9,10] [0,1,2,3,4,5,6,7,8,9,10] qK qK ?_
 refine aE (d:=cO j) 2 rfl hp3 rfl cZ fun u2=>?_
 refine aF 2 rfl hp3 ?_
 refine aB (u:=.int .u64 (j.a:Nat)) (e:=fun _=>cO j) 2 rfl (aC (aC (aJ (aG _)))) ?_
 refine aE (d:=cO j) 2 rfl hp3 rfl cZ fun u3=>?_
 refine aF 2 rfl hp3 ?_
 refine aB (u:=.int .u64 (j.b:Nat)) (e:=fun _=>cO j) 2 rfl (aC (aC (aC (aJ (aG _))))) ?_
 refine ar rfl qI ?_
 rw [show ((j.b:Nat):Int) - 1=((j.b - 1:Nat):Int) by omega]
 refine bN (pV u2 j j.a hE qN) (aT _ _) (aX (.tail _ (.head _)) (bP _)) ?_
 rintro _ _ _ ⟨rfl,rfl,rfl⟩
 refine bN (pV u3 j (j.b - 1) hE qN) (aT _ _) (aX (.head _) (bP _)) ?_
 rintro _ _ _ ⟨rfl,rfl,rfl⟩
 refine nN (n:=[htR h].length) 3 rfl hv fun _=>?_
 refine bD (X:=Nat) (fun i=>([(3,p3),(4,v),(5,p5),(6,p6),(8,.int .u64 (if i=0 then (pat j.e j.a:Nat) else (h.b+1:Nat):Nat)),(9,.int .u64 (pat j.e (j.b - 1):Nat)),(41,v),(42,.int .i64 1),(43,.int .i64 (i:Nat))],[bL p6 3 1 (fun _=>dyD (brV dyM [h]).1 (brV dyM [h]).2),bL p5 3 1 (fun _=>dyD (brV dyL [h]).1 (brV dyL [h]).2),bL p3 5 1 (fun _=>cO j),ownH v [if i=0 then htR h else h]],[])) (fun i=>i≤1) (fun i=>1 - i) rfl ?_ ?_
 ·exact bB 0 (Nat.zero_le _) trivial qF (aD (fs':=[]) (fun F hF=>by cases hF))
 intro i hi
 replace hi:i≤1:=hi
 refine aO _ rfl (fun hlt=>?_) (fun hlt=>?_)
 ·obtain rfl:i=0:=by omega
  rw [if_pos rfl,if_pos rfl]
  refine eM 3 rfl hv 0 rfl (by show 0<1; decide) ?_
  refine load_elem' (d:=fG (htR h)) 3 rfl 0 (by show 0<1; decide) rfl (pU _) fun u4=>?_
  refine aI (d:=fG ht0) fun p11 hp11=>?_
  refine aH (d:=fG (htR h)) 0 rfl hp11 rfl qK (aA (.head _)) ?_
  refine aF 0 rfl hp11 ?_
  refine aB (u:=.int .u64 (h.b:Nat)) (e:=fun _=>fG (htR h)) 0 rfl (aJ (aG _)) ?_
  refine aL rfl qN ?_
  refine aF 0 rfl hp11 ?_
  refine aB (u:=.int .u64 (h.b:Nat)) (e:=fun _=>fG (htR h)) 0 rfl (aJ (aG _)) ?_
  refine aL rfl qN ?_
  refine aF 3 rfl hp3 ?_
  refine aB (u:=.int .i64 j.f) (e:=fun _=>cO j) 3 rfl (aJ (aG _)) ?_
  refine aF 0 rfl hp11 ?_
  refine aB (u:=.int .u64 (h.b:Nat)) (e:=fun _=>fG (htR h)) 0 rfl (aJ (aG _)) ?_
  refine aF 3 rfl hp3 ?_
  refine aB (u:=.int .i64 j.m) (e:=fun _=>cO j) 3 rfl (aC (aC (aC (aC (aG _))))) ?_
  refine bN hRun (aT _ _) (bP _) ?_
  rintro _ _ _ ⟨rfl,y1,rfl,rfl⟩
  refine aI (d:=fY pS) fun p12 hp12=>?_
  refine aH (d:=fY h.l) 0 rfl hp12 rfl qK (aA (.head _)) ?_
  refine aL rfl qN ?_
  refine aF 0 rfl hp12 ?_
  refine aB (u:=.bool true) (e:=fun _=>fY h.l) 0 rfl (by rw [← hh]; exact aC (aC (aC (aC (aC (aC (aG _))))))) ?_
  refine aF 0 rfl hp12 ?_
  refine aK (d:=aN h.l.b.lo h.l.b.hi h.l.b.q) (e:=fun _=>fY h.l) 0 rfl (aJ (aG _)) (bR _ _ _) fun u5=>?_
  refine aF 1 rfl hp11 ?_
  refine bM hp11 ?_
  refine aK (d:=aN h.l.b.lo h.l.b.hi h.l.b.q) (e:=fun _=>fG (htR h)) 1 rfl (aC (aJ (aG _))) (bR _ _ _) fun u6=>?_
  refine bN (cSame u5 u6 h.l.b.lo h.l.b.hi h.l.b.q 64 hkh.2.1.lo hkh.2.1.hi qE) (aT _ _) (aX (.tail _ (.head _)) (aX (.head _) (bP _))) ?_
  rintro _ _ _ ⟨rfl,rfl,rfl⟩
  refine aF 0 rfl hp12 ?_
  refine aB (u:=.int .i64 h.l.k) (e:=fun _=>fY h.l) 0 rfl (aC (aJ (aG _))) ?_
  refine aF 1 rfl hp11 ?_
  refine bM hp11 ?_
  refine aB (u:=.int .i64 h.l.k) (e:=fun _=>fG (htR h)) 1 rfl (aC (aC (aJ (aG _)))) ?_
  refine aL rfl qN ?_
  have hone:∀ i,i<1→(fun _=>fG h) i=fG ([h].getD i ht0):=fun i hi=>by
   obtain rfl:i=0:=by omega
   rfl
  have hb64:=hkh.2.2
  refine eT [0,1,2,6,7,8,3,4,5,9] qK ?_
  refine cL 5 8 qK qK qK ?_ ?_
  ·refine cX [] [] [] [] [0,1,2,3,4,5,6,7,8,9] qK qK qK ?_
   refine aE (d:=fY h.l) 0 rfl hp12 rfl (oF _) fun y2=>?_
   refine aF 1 rfl hp11 ?_
   refine aB (u:=.int .u64 (h.b:Nat)) (e:=fun _=>fG (htR h)) 1 rfl (aJ (aG _)) ?_
   refine ar rfl ⟨by omega,by omega⟩ ?_
   refine eM 5 rfl hv 0 rfl (by show 0<1; decide) ?_
   refine oI (j:=0*14) 5 rfl (by show 0<1; decide) ?_
   refine lY (e:=fun i=>fG ([htR h].getD i ht0)) 5 rfl hv (Rep.rk (cD (n:=fY h.l) rfl) rfl) rfl qK (aA (by repeat (first | exact .head _ | apply List.Mem.tail))) ?_
   refine ar rfl qI ?_
   refine bB 1 (by show 1≤1; decide) (by show 1 - 1<1 - 0; decide) qF (dS (dS (aM (Seals.own_cong (os:=[_,_,_,bL v 14 1 (fun _=>fG h)]) 3 (n':=1) (fun i=>fG ([h].getD i ht0)) rfl rfl hone) (aD (fs':=[]) (fun F hF=>by cases hF)))))
  refine cL 4 8 qK qK qK ?_ ?_
  ·refine cX [] [] [] [] [0,1,2,3,4,6,7,8,5,9] qK qK qK ?_
   refine aE (d:=fY h.l) 0 rfl hp12 rfl (oF _) fun y2=>?_
   refine aF 1 rfl hp11 ?_
   refine aB (u:=.int .u64 (h.b:Nat)) (e:=fun _=>fG (htR h)) 1 rfl (aJ (aG _)) ?_
   refine eM 5 rfl hv 0 rfl (by show 0<1; decide) ?_
   refine oI (j:=0*14) 5 rfl (by show 0<1; decide) ?_
   refine lY (e:=fun i=>fG ([htR h].getD i ht0)) 5 rfl hv (Rep.rk (cD (n:=fY h.l) rfl) rfl) rfl qK (aA (by repeat (first | exact .head _ | apply List.Mem.tail))) ?_
   refine ar rfl ⟨by omega,by omega⟩ ?_
   refine ar rfl qI ?_
   refine bB 1 (by show 1≤1; decide) (by show 1 - 1<1 - 0; decide) qF (dS (dS (aM (Seals.own_cong (os:=[_,_,_,bL v 14 1 (fun _=>fG h)]) 3 (n':=1) (fun i=>fG ([h].getD i ht0)) rfl rfl hone) (aD (fs':=[]) (fun F hF=>by cases hF)))))
  refine cL 3 8 qK qK qK ?_ ?_
  ·refine cX [] [] [] [] [0,1,2,3,6,7,8,4,5,9] qK qK qK ?_
   refine aE (d:=fY h.l) 0 rfl hp12 rfl (oF _) fun y2=>?_
   refine aF 1 rfl hp11 ?_
   refine eM 5 rfl hv 0 rfl (by show 0<1; decide) ?_
   refine oI (j:=0*14) 5 rfl (by show 0<1; decide) ?_
   refine lY (e:=fun i=>fG ([htR h].getD i ht0)) 5 rfl hv (Rep.rk (cD (n:=fY h.l) rfl) rfl) rfl qK (aA (by repeat (first | exact .head _ | apply List.Mem.tail))) ?_
   refine aB (u:=.int .u64 (h.b:Nat)) (e:=fun _=>fG (htR h)) 1 rfl (aJ (aG _)) ?_
   refine ar rfl ⟨by omega,by omega⟩ ?_
   refine ar rfl qI ?_
   refine bB 1 (by show 1≤1; decide) (by show 1 - 1<1 - 0; decide) qF (dS (dS (aM (Seals.own_cong (os:=[_,_,_,bL v 14 1 (fun _=>fG h)]) 3 (n':=1) (fun i=>fG ([h].getD i ht0)) rfl rfl hone) (aD (fs':=[]) (fun F hF=>by cases hF)))))
  ·refine cX [] [] [] [] [0,1,2,6,7,8,3,4,5,9] qK qK qK ?_
   refine aE (d:=fY h.l) 0 rfl hp12 rfl (oF _) fun y2=>?_
   refine eM 5 rfl hv 0 rfl (by show 0<1; decide) ?_
   refine oI (j:=0*14) 5 rfl (by show 0<1; decide) ?_
   refine lY (e:=fun i=>fG ([htR h].getD i ht0)) 5 rfl hv (Rep.rk (cD (n:=fY h.l) rfl) rfl) rfl qK (aA (by repeat (first | exact .head _ | apply List.Mem.tail))) ?_
   refine aF 1 rfl hp11 ?_
   refine aB (u:=.int .u64 (h.b:Nat)) (e:=fun _=>fG (htR h)) 1 rfl (aJ (aG _)) ?_
   refine ar rfl ⟨by omega,by omega⟩ ?_
   refine ar rfl qI ?_
   refine bB 1 (by show 1≤1; decide) (by show 1 - 1<1 - 0; decide) qF (dS (dS (aM (Seals.own_cong (os:=[_,_,_,bL v 14 1 (fun _=>fG h)]) 3 (n':=1) (fun i=>fG ([h].getD i ht0)) rfl rfl hone) (aD (fs':=[]) (fun F hF=>by cases hF)))))
 ·obtain rfl:i=1:=by omega
  refine bN (sBracket v [h] (by show 1≤2048; decide) (fun x hx=>(hC.2 x hx).1)) (Seals.L (f:=fG) (z:=ht0) (size:=14) (l:=[h]) 3 rfl hv) (aX (.head _) (bP _)) ?_
  rintro _ _ _ ⟨rfl,x,y,rfl,rfl⟩
  refine aI (d:=dyD 0 0) fun p14 hp14=>?_
  refine aI (d:=dyD 0 0) fun p15 hp15=>?_
  refine aH (d:=dyD (brV dyL [h]).1 (brV dyL [h]).2) 1 rfl hp14 rfl qK (aA (v:=x) (d:=dyE (brV dyL [h])) (.tail _ (.head _))) ?_
  refine aH (d:=dyD (brV dyM [h]).1 (brV dyM [h]).2) 0 rfl hp15 rfl qK (aA (v:=y) (d:=dyE (brV dyM [h])) (.head _)) ?_
  refine aE (d:=dyD (brV dyL [h]).1 (brV dyL [h]).2) 1 rfl hp14 rfl (cB _ _) fun z1=>?_
  refine aE (d:=dyD (brV dyL [h]).1 (brV dyL [h]).2) 3 rfl hp5 rfl (cB _ _) fun z2=>?_
  refine bN (dCmp z1 z2 _ _ _ _ 60 hd1 hd1 qE) (aT _ _) (aX (.tail _ (.head _)) (aX (.head _) (bP _))) ?_
  rintro _ _ _ ⟨rfl,rfl,rfl⟩
  rw [Int.sub_self]
  refine aL rfl qP ?_
  refine aE (d:=dyD (brV dyM [h]).1 (brV dyM [h]).2) 0 rfl hp15 rfl (cB _ _) fun z3=>?_
  refine aE (d:=dyD (brV dyM [h]).1 (brV dyM [h]).2) 2 rfl hp6 rfl (cB _ _) fun z4=>?_
  refine bN (dCmp z3 z4 _ _ _ _ 60 hd2 hd2 qE) (aT _ _) (aX (.tail _ (.head _)) (aX (.head _) (bP _))) ?_
  rintro _ _ _ ⟨rfl,rfl,rfl⟩
  rw [Int.sub_self]
  refine aL rfl qP ?_
  exact fin ⟨rfl,rfl,rfl⟩ (aM (dS (dS (dS (dS (aV 0 _ _))))) (aD (fs':=[]) (fun F hF=>by cases hF)))
theorem uE (L W:List (Nat×List Nat)) (x:Nat×List Nat):fP L (W++[x])=k9 (fP L W) x.1 x.2:=by simp [fP]
theorem lI:∀ (W L:List (Nat×List Nat)),NdN L→NdN (fP L W)
 | [],_,h=>h
 | x::r,L,h=>lI r (k9 L x.1 x.2) (tD h)
theorem lk_chW (L:List (Nat×List Nat)) (hL:NdN L) (at':Nat) (b:List Nat) (i:Nat):∀ k,lkN z512 (fP L (chW k at' b)) i=if at'≤i∧i<at'+k then k6 ((b.drop (512*(i - at'))).take 512) else lkN z512 L i
 | 0=>by rw [if_neg qN]; rfl
 | k+1=>by
  have ih:=lk_chW L hL at' b i k
  rw [chW_succ,uE,mputN_lk (lI _ _ hL)]
  by_cases h:i=at'+k
  ·subst h
   rw [if_pos rfl,if_pos qN,Nat.add_sub_cancel_left]
  ·rw [if_neg h,ih]
   by_cases h2:at'≤i∧i<at'+k
   ·rw [if_pos h2,if_pos qN]
   ·rw [if_neg h2,if_neg qN]
theorem uG {b:List Nat} {n:Nat} (h:n≤b.length):(k6 b).take n=b.take n:=by
 unfold k6; rw [List.take_append_of_le_length h]
theorem vL {b:List Nat} (h:Byt b):Byt (k6 b):=by
 unfold k6
 exact h.app fun n hn=>by rw [(List.mem_replicate.1 hn).2]; omega
theorem getV_put {L:List (Nat×List Nat)} {s:Nat} {D:List Nat} (h:∀ i,i<bV D.length→lkN z512 L (s+i)=k6 ((D.drop (512*i)).take 512)):getV L s D.length=D:=by
 have key:∀ k,512*k≤D.length→getA L s k=D.take (512*k):=by
  intro k
  induction k with
  | zero=>intro _; simp [getA]
  | succ k ih =>
   intro hk
   have hl:((D.drop (512*k)).take 512).length=512:=by rw [List.length_take,List.length_drop]; omega
   rw [nQ,ih qN,h k (by unfold bV; omega)]
   have e:k6 ((D.drop (512*k)).take 512)=(D.drop (512*k)).take 512:=by
    unfold k6; rw [hl]; simp
   rw [e,show 512*(k+1)=512*k+512 by omega,List.take_add]
 unfold getV
 by_cases h0:512*bV D.length≤D.length
 ·have e:512*bV D.length=D.length:=by unfold bV at h0 ⊢; omega
  rw [key _ h0,e,List.take_length,List.take_length]
 ·obtain ⟨k,hk⟩:∃ k,bV D.length=k+1:=⟨bV D.length - 1,by unfold bV at h0 ⊢; omega⟩
  have hk1:512*k≤D.length:=by unfold bV at hk; omega
  rw [hk,nQ,key k hk1,h k qN]
  have hl:D.length≤512*(k+1):=by unfold bV at hk; omega
  have e:(D.drop (512*k)).take 512=D.drop (512*k):=List.take_of_length_le (by rw [List.length_drop]; omega)
  rw [e]
  unfold k6
  rw [← List.append_assoc,List.take_append_drop,List.take_left' rfl]
theorem vQ {L:List (Nat×List Nat)} {at' a b most:Nat} {T D:List Nat} (hT:T.length=4) (hD:D.length≤most) (hD2:D.length<18446744073709551616) (h1:lkN z512 L at'=k6 (gA T a b D)) (h2:getV L (at'+1) D.length=D):gN L at' T a b most=some D:=by
 have hH:(gA T a b D).length=36:=by rw [jL,hT]
 have hc:cntV (k6 (gA T a b D))=D.length:=by
  unfold cntV
  have e:((k6 (gA T a b D)).drop 20).take 8=leN D.length 8:=by
   rw [List.take_drop,uG qN]
   unfold gA sQ
   rw [List.take_append_of_le_length (by rw [List.length_append,jT,hT]; simp),List.take_of_length_le (by rw [List.length_append,jT,hT]; simp)]
   have:T++les [a,b,D.length]=(T++(leN a 8++leN b 8))++leN D.length 8:=by simp [les]
   rw [this]
   exact List.drop_left' (by simp [hT,dO])
  rw [e,rH,show (256:Nat)^8=18446744073709551616 by decide]
  omega
 unfold gN
 rw [h1,hc,h2,if_pos ⟨hD,by rw [uG qN,List.take_of_length_le qN]⟩]
theorem behindV_none {L:List (Nat×List Nat)} {at' a b most:Nat} {T:List Nat} {t:Nat} {r:List Nat} (hT:T=t::r) (ht:t≠0) (h:lkN z512 L at'=z512):gN L at' T a b most=none:=by
 unfold gN
 rw [if_neg]
 rintro ⟨_,h2⟩
 rw [h] at h2
 have e1:(z512.take 36).getD 0 0=0:=by unfold z512; rfl
 have e2:(gA T a b (getV L (at'+1) (cntV (lkN z512 L at')))).getD 0 0=t:=by subst hT; rfl
 rw [h] at e2
 rw [h2,e2] at e1
 exact ht e1
theorem padS_nil:k6 []=z512:=rfl
theorem dkb_put {L:List (Nat×List Nat)} (hL:NdN L) (hB:DkB L) {b:List Nat} (hb:Byt b) (k at':Nat):DkB (fP L (chW k at' b)):=fun i=>by
 rw [lk_chW L hL]
 split
 ·exact vL fun n hn=>hb n (List.mem_of_mem_drop (List.mem_of_mem_take hn))
 ·exact hB i
theorem chunk0 {b:List Nat} (h:b.length≤512):(b.drop (512*0)).take 512=b:=by rw [Nat.mul_zero,List.drop_zero]; exact List.take_of_length_le h
theorem lk_one {L:List (Nat×List Nat)} (hL:NdN L) (at' i:Nat) {b:List Nat} (h1:bV b.length=1):lkN z512 (fP L ([]++chW (bV b.length) at' b)) i=if i=at' then k6 b else lkN z512 L i:=by
 have hb:b.length≤512:=by unfold bV at h1; omega
 rw [List.nil_append,lk_chW L hL,h1]
 by_cases h:i=at'
 ·rw [if_pos qN,if_pos h,h,Nat.sub_self,chunk0 hb]
 ·rw [if_neg qN,if_neg h]
theorem lk_saveL {L:List (Nat×List Nat)} (hL:NdN L) (i:Nat) {S:List Nat} (h1:bV S.length=1):lkN z512 (pL L S) i=if i=2 then k6 (gA t8 1 0 S) else if i=3 then k6 S else lkN z512 L i:=by
 have hA:NdN (savA L):=lI _ _ hL
 have hB:NdN (savB (savA L) S):=lI _ _ hA
 unfold pL
 show lkN z512 (fP _ ([]++chW (bV (gA t8 1 0 S).length) 2 (gA t8 1 0 S))) i=_
 rw [lk_one hB 2 i (j9 S)]
 by_cases h2:i=2
 ·rw [if_pos h2,if_pos h2]
 ·rw [if_neg h2,if_neg h2]
  show lkN z512 (fP _ ([]++chW (bV S.length) 3 S)) i=_
  rw [lk_one hA 3 i h1]
  by_cases h3:i=3
  ·rw [if_pos h3,if_pos h3]
  ·rw [if_neg h3,if_neg h3]
   show lkN z512 (fP _ ([]++chW (bV [0].length) 2 [0])) i=_
   rw [lk_one hL 2 i rfl,if_neg h2]
theorem lk_appL {L:List (Nat×List Nat)} (hL:NdN L) (at' en ep nx i:Nat) {b:List Nat} (h1:bV b.length=1):lkN z512 (vW L at' en ep nx b) i=if i=at' then k6 (gA uW ep nx b) else if i=at'+1 then k6 b else if i=at'+2∧at'+2<en then z512 else lkN z512 L i:=by
 have hW:NdN (fP L (appW at' en b)):=lI _ _ hL
 unfold vW
 rw [lk_one hW at' i (oH ep nx b)]
 by_cases h2:i=at'
 ·rw [if_pos h2,if_pos h2]
 rw [if_neg h2,if_neg h2]
 have e1:=lk_one hL (at'+1) i h1
 unfold appW
 rw [h1]
 rw [h1] at e1
 by_cases h4:at'+1+1<en
 ·rw [if_pos h4,uE,mputN_lk (lI _ _ hL),e1,padS_nil]
  by_cases h5:i=at'+1+1
  ·rw [if_pos h5,if_neg qN,if_pos ⟨by omega,h4⟩]
  ·rw [if_neg h5]
   by_cases h6:i=at'+1
   ·rw [if_pos h6,if_pos h6]
   ·rw [if_neg h6,if_neg h6,if_neg qN]
 ·rw [if_neg h4,List.append_nil,e1]
  by_cases h6:i=at'+1
  ·rw [if_pos h6,if_pos h6]
  ·rw [if_neg h6,if_neg h6,if_neg qN]
theorem dkb_app {L:List (Nat×List Nat)} (hL:NdN L) (hB:DkB L) (at' en ep nx:Nat) {b:List Nat} (h1:bV b.length=1) (hb:Byt b):DkB (vW L at' en ep nx b):=fun i=>by
 rw [lk_appL hL _ _ _ _ _ h1]
 split
 ·exact vL (byt_head tL _ _ _)
 split
 ·exact vL hb
 split
 ·exact fun n hn=>by rw [(List.mem_replicate.1 hn).2]; omega
 ·exact hB i
structure DInv (n:Nat) (S:List Nat) (L:List (Nat×List Nat)) (c:Nat):Prop where
 ok:DkOk n L
 b:DkB L
 len:L.length≤c
 s0:lkN z512 L 0=z512
 s2:lkN z512 L 2=k6 (gA t8 1 0 S)
 s3:lkN z512 L 3=k6 S
 s4:lkN z512 L 4=z512
 s5:lkN z512 L 5=z512
 s6:True
theorem DkOk.nil (n:Nat):DkOk n []:=⟨by unfold NdN; simp,fun x hx=>by cases hx⟩
theorem lk_nil (i:Nat):lkN z512 ([]:List (Nat×List Nat)) i=z512:=rfl
theorem DkB.nil:DkB []:=fun i n hn=>by
 rw [lk_nil] at hn
 rw [(List.mem_replicate.1 hn).2]; omega
theorem DInv.first {n:Nat} {S:List Nat} (hn:4≤n) (h1:bV S.length=1) (hb:Byt S):DInv n S (pL [] S) 3:=by
 have h0:=DkOk.nil n
 obtain ⟨a1,a2⟩:=savA_ok h0 hn
 obtain ⟨b1,b2⟩:=savB_ok (b:=S) a1 hn qN
 obtain ⟨c1,c2⟩:=savC_ok (b:=S) b1 hn
 have hlk:=fun i=>lk_saveL h0.nd i h1
 refine ⟨c1,fun i=>?_,by simp only [List.length_nil] at a2; show (savC (savB (savA []) S) S).length≤3; omega,?_,?_,?_,?_,?_,trivial⟩
 ·rw [hlk]
  split
  ·exact vL (byt_head byt_slot _ _ _)
  split
  ·exact vL hb
  ·exact DkB.nil i
 ·rw [hlk,if_neg qE,if_neg qE]; rfl
 ·rw [hlk,if_pos rfl]
 ·rw [hlk,if_neg qE,if_pos rfl]
 ·rw [hlk,if_neg qE,if_neg qE]; rfl
 ·rw [hlk,if_neg qE,if_neg qE]; rfl
theorem DInv.app {n:Nat} {S:List Nat} {L:List (Nat×List Nat)} {c:Nat} (h:DInv n S L c) {at' en ep nx:Nat} {b:List Nat} (ha:6≤at') (he:at'+2≤en) (hn:en≤n) (h1:bV b.length=1) (hb:Byt b):DInv n S (vW L at' en ep nx b) (c+3):=by
 have hlk:=fun i=>lk_appL h.ok.nd at' en ep nx i h1
 obtain ⟨g1,g2⟩:=appL_ok (ep:=ep) (nx:=nx) h.ok (at':=at') (en:=en) (b:=b) qN hn
 have hlen:=h.len
 refine ⟨g1,dkb_app h.ok.nd h.b _ _ _ _ h1 hb,by omega,?_,?_,?_,?_,?_,trivial⟩ <;>
  rw [hlk,if_neg qN,if_neg qN,if_neg qN]
 ·exact h.s0
 ·exact h.s2
 ·exact h.s3
 ·exact h.s4
 ·exact h.s5
theorem gen0 {L:List (Nat×List Nat)} {i:Nat} (h:lkN z512 L i=z512):genV L i=0:=by
 unfold genV
 rw [h]
 unfold z512
 rw [List.drop_replicate,List.take_replicate]
 rfl
theorem gen1 {L:List (Nat×List Nat)} {i:Nat} {S:List Nat} (h:lkN z512 L i=k6 (gA t8 1 0 S)):genV L i=1:=by
 unfold genV
 rw [h,List.take_drop,uG (by rw [jL]; show 12≤4+32; decide)]
 have:gA t8 1 0 S=t8++(leN 1 8++(les [0,S.length]++leN (oX (oX sW (sQ t8 1 0 S.length)) S) 8)):=by simp [gA,sQ,les]
 rw [this,← List.append_assoc,List.take_left' (by simp [t8,dO]),List.drop_left' (by rfl),rH]
theorem open_none {L:List (Nat×List Nat)} {s size ep:Nat} (h:lkN z512 L s=z512):openV L s size ep=(s,0,[]) :=
 l7 L (s+size) ep size s 0 [] (.inr (behindV_none (T:=uW) (t:=74) (r:=[82,78,76]) rfl qE h))
structure DEnd (n:Nat) (S:List Nat) (s:Nat) (B:List Nat) (L:List (Nat×List Nat)):Prop where
 ok:DkOk n L
 b:DkB L
 g0:genV L 0=0
 g2:genV L 2=1
 st:gN L 2 t8 1 0 512=some S
 op:openV L 4 2 1=(6,1,[leN B.length 8])
 gt:getV L s B.length=B
theorem DInv.fin {n:Nat} {S:List Nat} {L:List (Nat×List Nat)} {c s:Nat} {B:List Nat} (h:DInv n S L c) (hs:10≤s) (hB:Byt B) (hBl:B.length≤1000000) (hsz:s+bV B.length≤n) (h1:bV S.length=1) :
  DEnd n S s B (vW (pubL L s B) 4 6 1 0 (leN B.length 8)):=by
 obtain ⟨p1,p2⟩:=pubL_ok h.ok hsz
 have h8:bV (leN B.length 8).length=1:=by rw [dO]; rfl
 have hlk:=fun i=>lk_appL p1.nd 4 6 1 0 i h8
 have hpk:∀ i,lkN z512 (pubL L s B) i=if s≤i∧i<s+bV B.length then k6 ((B.drop (512*(i - s))).take 512) else lkN z512 L i:=fun i=>lk_chW L h.ok.nd s B i _
 have hpB:DkB (pubL L s B):=dkb_put h.ok.nd h.b hB _ _
 obtain ⟨g1,g2⟩:=appL_ok (ep:=1) (nx:=0) p1 (at':=4) (en:=6) (b:=leN B.length 8) (by rw [h8]; decide) qN
 have k0:lkN z512 (vW (pubL L s B) 4 6 1 0 (leN B.length 8)) 0=z512:=by rw [hlk,if_neg qE,if_neg qE,if_neg qE,hpk,if_neg qN]; exact h.s0
 have k2:lkN z512 (vW (pubL L s B) 4 6 1 0 (leN B.length 8)) 2=k6 (gA t8 1 0 S):=by rw [hlk,if_neg qE,if_neg qE,if_neg qE,hpk,if_neg qN]; exact h.s2
 have k3:lkN z512 (vW (pubL L s B) 4 6 1 0 (leN B.length 8)) 3=k6 S:=by rw [hlk,if_neg qE,if_neg qE,if_neg qE,hpk,if_neg qN]; exact h.s3
 have k4:lkN z512 (vW (pubL L s B) 4 6 1 0 (leN B.length 8)) 4=k6 (gA uW 1 0 (leN B.length 8)):=by rw [hlk,if_pos rfl]
 have k5:lkN z512 (vW (pubL L s B) 4 6 1 0 (leN B.length 8)) 5=k6 (leN B.length 8):=by rw [hlk,if_neg qE,if_pos rfl]
 have hSl:S.length≤512:=by unfold bV at h1; omega
 have hone:∀ (D:List Nat) (t:Nat),bV D.length=1→lkN z512 (vW (pubL L s B) 4 6 1 0 (leN B.length 8)) t=k6 D→getV (vW (pubL L s B) 4 6 1 0 (leN B.length 8)) t D.length=D:=fun D t hd hk=>getV_put fun i hi=>by
  obtain rfl:i=0:=by omega
  rw [Nat.add_zero,hk,chunk0 (by unfold bV at hd; omega)]
 have b4:gN (vW (pubL L s B) 4 6 1 0 (leN B.length 8)) 4 uW 1 0 (uN 6 4)=some (leN B.length 8) :=
  vQ rfl (by rw [dO]; decide) (by rw [dO]; decide) k4 (hone _ 5 h8 k5)
 refine ⟨g1,dkb_app p1.nd hpB _ _ _ _ h8 (iB _ _),gen0 k0,gen1 k2,vQ rfl qN qN k2 (hone S 3 h1 k3),?_,getV_put fun i hi=>?_⟩
 ·show pQ _ 6 1 (1+1) 4 0 []=_
  rw [uI _ _ _ _ _ _ _ _ qE b4,h8,l7 _ _ _ _ _ _ _ (.inl qE)]
  rfl
 ·rw [hlk,if_neg qN,if_neg qN,if_neg qN,hpk,if_pos qN,Nat.add_sub_cancel_left]
theorem rW (D:List Bool) (i:Nat):∀ n,n≤i→eX (D.set i true) n=eX D n
 | 0,_=>rfl
 | n+1,h=>by
  have ih:=rW D i n qN
  show eX (D.set i true) n++_=eX D n++_
  rw [ih,gE,List.getElem?_set_ne qN,← gE]
theorem openU_set (D:List Bool) (i:Nat) (hi:i<D.length) (hf:D.getD i false=false):∀ n,i<n→(eX (D.set i true) n).length+1=(eX D n).length
 | 0,h=>absurd h (Nat.not_lt_zero _)
 | n+1,h=>by
  show (eX (D.set i true) n++_).length+1=(eX D n++_).length
  by_cases he:i=n
  ·subst he
   rw [rW D i i (Nat.le_refl _),gE,List.getElem?_set_self hi,hf]
   simp
  ·have ih:=openU_set D i hi hf n qN
   rw [gE (l:=D.set i true),List.getElem?_set_ne qN,← gE,List.length_append,List.length_append]
   omega
theorem openU_noT (n:Nat):∀ k,k≤n→(eX (noT n) k).length=k
 | 0,_=>rfl
 | k+1,h=>by
  show (eX (noT n) k++_).length=_
  have:(noT n).getD k false=false:=by unfold noT; rw [gE,List.getElem?_replicate]; split <;> rfl
  rw [this,List.length_append,openU_noT n k qN]
  simp
def kJ (LV:Int→Nat→Int→Lk7) (j:Jb):List Ht:=iO LV j.f j.m (pat j.e j.a) (j.b - j.a)
def S0 (j:Jb):List Nat:=iW j (noT (cA j)) (noT (j.b - j.a))
def stO (q:Nat) (j:Jb) (r n rm:Nat) (dv hv:Value) (ql qp:Nat) (rest:List Own) (y:Nat×List Bool×List Bool×List (Nat×List Nat)):List Own :=
 if y.1≤cA j then mW q j r n rm dv hv y.2.1 y.2.2.1 false y.2.2.2 ql (6+2*y.1) y.1 qp 4 0 rest else mW q j r n rm dv hv y.2.1 y.2.2.1 true y.2.2.2 ql (6+2*cA j) (cA j) qp 6 1 rest
def stI (LV:Int→Nat→Int→Lk7) (j:Jb) (n:Nat) (B:List Nat) (y:Nat×List Bool×List Bool×List (Nat×List Nat)):Prop :=
 y.1≤cA j+1∧(y.1≤cA j→FInv LV j y.2.1 y.2.2.1∧(eX y.2.1 y.2.1.length).length=cA j - y.1∧DInv n (S0 j) y.2.2.2 (3+3*y.1))∧(cA j<y.1→DEnd n (S0 j) (eC j) B y.2.2.2)
set_option maxHeartbeats 4000000 in
theorem q8 {LV:Int→Nat→Int→Lk7} (hLo:mP LV) {fs:List bA} {K:cE} (r n rm:Nat) (jv:Value) (j:Jb) (hj:oO LV j) (rest:List Own) (hn:n≤4096) (hu:cA j≤200) (hC:qX (kJ LV j)) (B:List Nat) (hB:B=qB j (kJ LV j)) (hBl:B.length≤900000) (hsz:eC j+bV B.length≤n) (hroom:eC j<n) (hjv:(jv,cO j)∈fs)
  (kk:∀ x L,K x (dkC r n rm L rest) ((x,BD B)::fs)) :
  CallK Tryz.prog false (.func (.func 9) #[] #[]) [cN r,jv] (diskO r n (.map (some rm)) (.slice none 0 0) [] []++rest) fs K:=by
 have hok:=hj.1
 have hab:=hok.ab
 have h64:=hok.in64
 have hrv:eC j=6+(2*cA j+2):=rfl
 have hSl:(S0 j).length≤512:=by unfold S0; rw [lH]; simp [noT]; omega
 have hS1:bV (S0 j).length=1:=by
  have:48≤(S0 j).length:=by unfold S0; rw [lH]; omega
  unfold bV; omega
 have hSb:Byt (S0 j):=byt_state _ _ _
 have hD0:DInv n (S0 j) (pL [] (S0 j)) 3:=DInv.first qN hS1 hSb
 have hS48:48≤(S0 j).length:=by unfold S0; rw [lH]; omega
 have hSj:(S0 j).take 48=gL j:=by
  unfold S0 iW
  rw [List.append_assoc]
  exact List.take_left' (kB j)
 have hu1:1≤cA j:=by unfold cA; omega
 have hbody:Byt B:=by rw [hB]; exact (byt_body _ _).app (iB _ _)
 refine cM (aV 2 _ _) ?_
 refine bX (args:=[cN r,jv]) (caps:=[]) Tryz.func9 qK rfl qK (Nat.le_of_ble_eq_true rfl) ?_
 refine aQ (aA (d:=cO j) hjv) fun p3 hp3=>?_
 refine aE (d:=cO j) 0 rfl hp3 rfl cZ fun u1=>?_
 refine cM (bK (nC [_] [dkO r n (.map (some rm)) (.slice none 0 0),e9 jN z512 (.map (some rm)) []] rest)) ?_
 refine fStart hLo r n rm u1 j hj [] _ hn hroom (DkOk.nil n) DkB.nil qE (gen0 rfl) (gen0 rfl) hD0.b (open_none ?_) (open_none hD0.s4) (.head _) fun q dv hv ql qp hdv hhv=>?_
 ·show lkN z512 (pL [] (S0 j)) 6=z512
  rw [lk_saveL (DkOk.nil n).nd 6 hS1]; rfl
 refine eq_ptr ?_
 refine aL rfl qN ?_
 refine bD (X:=Nat×List Bool×List Bool×List (Nat×List Nat)) (fun y=>([(0,cN r),(3,p3),(5,cN q),(7,.int .i64 (y.1:Nat))],stO q j r n rm dv hv ql qp (bL p3 5 1 (fun _=>cO j)::rest) y,fs)) (stI LV j n B) (fun y=>cA j+1 - y.1) rfl ?_ ?_
 ·refine bB (0,noT (cA j),noT (j.b - j.a),pL [] (S0 j)) ⟨Nat.zero_le _,fun _=>⟨FInv.zero,?_,hD0⟩,fun h=>absurd h (Nat.not_lt_zero _)⟩ trivial qF ?_
  ·show (eX (noT (cA j)) (noT (cA j)).length).length=_
   rw [show (noT (cA j)).length=cA j by simp [noT],openU_noT _ _ (Nat.le_refl _)]; rfl
  ·exact aD (fun F hF=>.tail _ hF)
 rintro ⟨k,D,H,L⟩ ⟨hk1,hk2,hk3⟩
 simp only at hk1 hk2 hk3 ⊢
 refine Or.elim (Nat.lt_or_ge (cA j) k) (fun hk=>?_) (fun hk=>?_)
 ·have hE:=hk3 hk
  unfold stO
  rw [if_neg (Nat.not_le.2 hk)]
  refine aE (d:=cO j) 7 rfl hp3 rfl cZ fun u2=>?_
  refine bN (jUnits u2 j h64 hab) (aT _ _) (aX (.head _) (bP _)) ?_
  rintro _ _ _ ⟨rfl,rfl,rfl⟩
  refine aL rfl qN ?_
  refine cM (bK (nC [_,_,_] [_,_] _)) ?_
  refine fCert r n rm j hok L _ (S0 j) B.length hn qN hE.ok hE.b hE.g0 hE.g2 hE.st hS48 hSj hE.op qN hsz fun x=>?_
  rw [hE.gt]
  refine fin (kk x L) (aM (aV 2 _ _) (aM (aV 2 _ _) (aM (aV 2 _ _) (aM (aV 2 _ _) (aM (aV 2 _ _) (aM (aV 2 _ _) (aD (fun F hF=>?_))))))))
  rcases List.mem_cons.1 hF with rfl | hF
  ·exact .head _
  ·repeat (first | exact hF | apply List.Mem.tail)
 ·obtain ⟨hF,hop,hI⟩:=hk2 hk
  unfold stO
  rw [if_pos hk]
  have hL:=hI.len
  refine aE (d:=cO j) 7 rfl hp3 rfl cZ fun u2=>?_
  refine bN (jUnits u2 j h64 hab) (aT _ _) (aX (.head _) (bP _)) ?_
  rintro _ _ _ ⟨rfl,rfl,rfl⟩
  refine bG rfl qN ?_
  refine fStep hLo q j hok r n rm dv hv D H L ql (6+2*k) k qp _ k hdv hhv hF hu qN hn hI.ok qN qN B hB qN hC hsz (fun h0=>⟨by omega,?_⟩) (fun h0=>?_)
  ·have hku:k<cA j:=by omega
   obtain ⟨hp1,hp2⟩:=pickU_ok (D:=D) (k:=k) h0
   have hd:=hF.d
   have hset:=openU_set D (mU D k) hp1 hp2 D.length hp1
   have hrl:=recB_len LV j (mU D k)
   have hr1:bV (recB LV j (mU D k)).length=1:=by rw [hrl]; rfl
   have hrb:Byt (recB LV j (mU D k)):=fun c hc=>by
    rcases List.mem_append.1 hc with h | h
    ·simp only [List.mem_cons,List.not_mem_nil,or_false] at h
     omega
    ·exact byt_bits _ c h
   refine aL rfl qN ?_
   refine ar rfl qI ?_
   refine bB (k+1,D.set (mU D k) true,rN H (tT LV j (mU D k)) (4*mU D k),vW L (6+2*k) (6+(2*cA j+2)) 1 k (recB LV j (mU D k))) ⟨by simp only; omega,fun _=>⟨hF.unit qN,?_,?_⟩,fun h=>by simp only at h; omega⟩ (by simp only; omega) qF ?_
   ·simp only [List.length_set]
    omega
   ·exact (hI.app qN qN qN hr1 hrb)
   ·simp only
    rw [if_pos (by omega:k+1≤cA j)]
    exact aD (fun F hF=>.tail _ hF)
  ·have hku:k=cA j:=by
    rw [h0] at hop
    simp only [List.length_nil] at hop
    omega
   have hE:=hI.fin (s:=eC j) (B:=B) qN hbody qN hsz hS1
   refine aL rfl qN ?_
   refine ar rfl qI ?_
   refine bB (k+1,D,H,vW (pubL L (eC j) B) 4 6 1 0 (leN B.length 8)) ⟨by simp only; omega,fun h=>by simp only at h; omega,fun _=>hE⟩ (by simp only; omega) qF ?_
   simp only
   rw [if_neg (by omega:¬ k+1≤cA j),hku]
   exact aD (fun F hF=>.tail _ hF)
theorem inL_nil (i:Nat):inL [] i=false:=rfl
def pairX (L:List Oper) (tbl sl:List Nat) (i:Nat) (oi:Oper) (j:Nat) (oj:Oper):Bool :=
 !Nat.beq i j && !sameD oi.dst oj.dst&&((!(hits oi.dst (cQ L oj)||hits oj.dst (cQ L oi)||(dT oi.op && !isEa oj)||((sD oj.op||inL sl j) && !nO oi.op)))||anc tbl i j)
def pairsX (L:List Oper) (tbl sl:List Nat):List Nat→Bool
 | []=>true
 | i::r=>(match oC L i with
   | none=>false
   | some oi => !hits oi.dst (cQ L oi) && !(inL sl i && !jU oi.op)&&r.all fun j=>match oC L j with
    | some oj=>pairX L tbl sl i oi j oj
    | none=>false)&&pairsX L tbl sl r
def drawX (L:List Oper) (sl c g:List Nat):Bool :=
 Nat.beq c.length L.length&&(List.range L.length).all (fun i=>c.any (Nat.beq i))&&pairsX L (iE L []) sl c&&nS L.length g 0 L
structure CheckedX (L:List Oper) (tbl sl:List Nat) (c:List Nat):Prop where
 nodup:c.Nodup
 all:∀ i,i∈c↔i<L.length
 self:∀ i o,i∈c→L[i]? = some o→(∀ t,o.dst=some t→t ∉ cQ L o)∧(inL sl i=true→jU o.op=true)
 pair:∀ pre i post j oi oj,c=pre++i::post→j∈post→L[i]? = some oi→L[j]? = some oj →
  (∀ t,oi.dst=some t→oj.dst≠some t)∧((∃ t,oi.dst=some t∧t∈cQ L oj)∨(∃ t,oj.dst=some t∧t∈cQ L oi)∨(dT oi.op=true∧isEa oj=false)∨((sD oj.op||inL sl j)=true∧nO oi.op=false)→anc tbl i j=true)
theorem rU {L:List Oper} {tbl sl:List Nat}:∀ {c:List Nat},pairsX L tbl sl c=true →
  c.Nodup∧(∀ i,i∈c→i<L.length)∧(∀ i o,i∈c→L[i]? = some o→(∀ t,o.dst=some t→t ∉ cQ L o)∧(inL sl i=true→jU o.op=true)) ∧
  ∀ pre i post j oi oj,c=pre++i::post→j∈post→L[i]? = some oi→L[j]? = some oj →
   (∀ t,oi.dst=some t→oj.dst≠some t)∧((∃ t,oi.dst=some t∧t∈cQ L oj)∨(∃ t,oj.dst=some t∧t∈cQ L oi)∨(dT oi.op=true∧isEa oj=false)∨((sD oj.op||inL sl j)=true∧nO oi.op=false)→anc tbl i j=true)
 | [],_=>⟨List.nodup_nil,by simp,by simp,fun pre i post j oi oj h=>by simp at h⟩
 | x::r,h=>by
  simp only [pairsX,Bool.and_eq_true] at h
  obtain ⟨h1,h2⟩:=h
  obtain ⟨g1,g2,g3,g4⟩:=rU h2
  cases hx:oC L x with
  | none=>simp [hx] at h1
  | some ox =>
   simp only [hx,Bool.and_eq_true] at h1
   obtain ⟨⟨h3,h3''⟩,h4⟩:=h1
   have hxL:L[x]? = some ox:=by rw [← f9]; exact hx
   have hpair:∀ j,j∈r→∃ oj,oC L j=some oj∧pairX L tbl sl x ox j oj=true:=by
    intro j hj
    have:=List.all_eq_true.1 h4 j hj
    cases hoj:oC L j with
    | none=>simp [hoj] at this
    | some oj=>simp only [hoj] at this; exact ⟨oj,rfl,this⟩
   refine ⟨List.nodup_cons.2 ⟨fun hm=>?_,g1⟩,fun i hi=>?_,fun i o hi ho=>?_,fun pre i post j oi oj hp hj hoi hoj=>?_⟩
   ·obtain ⟨oj,_,hp⟩:=hpair x hm
    simp [pairX] at hp
   ·rcases List.mem_cons.1 hi with rfl | hi
    ·exact (List.getElem?_eq_some_iff.1 hxL).1
    ·exact g2 i hi
   ·rcases List.mem_cons.1 hi with rfl | hi
    ·rw [hxL] at ho
     obtain rfl:=Option.some.inj ho
     refine ⟨fun t ht hm=>?_,fun hf=>?_⟩
     ·rw [g7.2 ⟨t,ht,hm⟩] at h3
      cases h3
     ·rw [hf] at h3''
      cases hd:jU ox.op with
      | true=>rfl
      | false=>rw [hd] at h3''; cases h3''
    ·exact g3 i o hi ho
   ·cases pre with
    | nil =>
     simp only [List.nil_append,List.cons.injEq] at hp
     obtain ⟨rfl,rfl⟩:=hp
     obtain ⟨oj',h5,h6⟩:=hpair j hj
     rw [f9,hoj] at h5
     obtain rfl:=Option.some.inj h5
     rw [hxL] at hoi
     obtain rfl:=Option.some.inj hoi
     simp only [pairX,Bool.and_eq_true,Bool.or_eq_true,Bool.not_eq_true'] at h6
     obtain ⟨⟨_,h7⟩,h8⟩:=h6
     refine ⟨fun t ht ht'=>?_,fun hc=>?_⟩
     ·rw [ht,ht'] at h7; simp [sameD] at h7
     ·rcases h8 with h8 | h8
      ·exfalso
       simp only [Bool.or_eq_false_iff] at h8
       obtain ⟨⟨⟨q1,q2⟩,q3⟩,q4⟩:=h8
       rcases hc with hc | hc | hc | hc
       ·rw [g7.2 hc] at q1; cases q1
       ·rw [g7.2 hc] at q2; cases q2
       ·rw [hc.1,hc.2] at q3; cases q3
       ·rw [hc.1,hc.2] at q4; cases q4
      ·exact h8
    | cons y pre =>
     simp only [List.cons_append,List.cons.injEq] at hp
     obtain ⟨rfl,rfl⟩:=hp
     exact g4 pre i post j oi oj rfl hj hoi hoj
theorem drawX_sound {L:List Oper} {sl c g:List Nat} (h:drawX L sl c g=true):CheckedX L (iE L []) sl c:=by
 simp only [drawX,Bool.and_eq_true] at h
 obtain ⟨⟨⟨_,h2⟩,h3⟩,_⟩:=h
 obtain ⟨g1,g2,g3,g4⟩:=rU h3
 refine ⟨g1,fun i=>⟨g2 i,fun hi=>?_⟩,g3,g4⟩
 have:=List.all_eq_true.1 h2 i (by simpa using hi)
 obtain ⟨x,hx,hb⟩:=List.any_eq_true.1 this
 have:=Nat.eq_of_beq_eq_true hb
 subst this
 exact hx
theorem uA {L:List Oper} {sl c g:List Nat} (h:drawX L sl c g=true) (mixed:Bool) (t:Nat):iS .any L (Region.schedule mixed L.toArray t):=by
 simp only [drawX,Bool.and_eq_true] at h
 have he:=iP h.2
 have weaken:∀ {m:Region.Mode} {l:List Nat},iS m L l→iS .any L l:=fun ho=>⟨ho.nodup,ho.all,fun pre i post hp j ⟨o,h1,e,h2,h3,h4⟩=>ho.before pre i post hp j ⟨o,h1,e,h2,qR h3,h4⟩⟩
 have text:∀ t,iS .text L (Region.linearise .text L.toArray t):=fun t=>dL (ops:=L.toArray) id (fun i j ⟨o,h1,e,h2,h3,h4⟩=>by
  have:=he i o h1 e h2; subst h4; exact ⟨by simpa using this.1,by simpa using this.2.1 h3⟩) t
 have any:∀ t,iS .any L (Region.linearise .any L.toArray t):=fun t=>dL (ops:=L.toArray) id (fun i j ⟨o,h1,e,h2,h3,h4⟩=>by
  have:=he i o h1 e h2; subst h4; exact ⟨by simpa using this.1,by simpa using this.2.2.1 h3⟩) t
 have gc:∀ t,iS .gc L (Region.linearise .gc L.toArray t):=fun t=>dL (ops:=L.toArray) (posOf g) (fun i j ⟨o,h1,e,h2,h3,h4⟩=>by
  have:=he i o h1 e h2; subst h4; exact ⟨by simpa using this.1,by simpa using this.2.2.2 h3⟩) t
 unfold Region.schedule
 split
 ·exact any t
 ·split
  ·exact weaken (text _)
  ·exact weaken (gc _)
section
variable {P:Program} {N:Nat} {L:List Oper} {f0:Fr} {G:Ctx} {K:jD} {sl c:List Nat}
theorem src_nextX (hc:CheckedX L (iE L []) sl c) {vd c':List Nat} {k:Nat} {val:Nat→Value} {vf:Fr} {o:Oper} (hs:c=vd++k::c') (ho:L[k]? = some o)
  (virt:∀ t v,look vf t=some v→(∃ j o,j∈vd∧L[j]? = some o∧o.dst=some t∧val j=v)∨(look f0 t=some v∧∀ j o,j∈vd→L[j]? = some o→o.dst≠some t)) :
  ∀ t v,t∈cQ L o→look vf t=some v→Src L (iE L []) f0 vd val k t v:=by
 intro t v ht hl
 rcases virt t v hl with ⟨j,oj,h1,h2,h3,h4⟩ | ⟨h1,h2⟩
 ·left
  refine ⟨j,oj,h1,h2,h3,h4,?_⟩
  obtain ⟨pre,post,rfl⟩:=List.append_of_mem h1
  exact (hc.pair pre j (post++k::c') k oj o (by rw [hs]; simp) qP h2 ho).2 (.inl ⟨t,h3,ht⟩)
 ·right
  refine ⟨h1,fun j oj hj hd=>?_⟩
  have hjc:j∈c:=(hc.all j).2 (List.getElem?_eq_some_iff.1 hj).1
  rw [hs] at hjc
  rcases List.mem_append.1 hjc with hm | hm
  ·exact absurd hd (h2 j oj hm hj)
  ·rcases List.mem_cons.1 hm with rfl | hm
   ·rw [ho] at hj
    obtain rfl:=Option.some.inj hj
    exact absurd ht ((hc.self j o ((hc.all j).2 (List.getElem?_eq_some_iff.1 ho).1) ho).1 t hd)
   ·exact (hc.pair vd k c' j o oj hs hm ho hj).2 (.inr (.inl ⟨t,hd,ht⟩))
theorem qZ {vd:List Nat} {val:Nat→Value} {vf:Fr} {x:Nat} {o:Oper} {u:Value} (hc:CheckedX L (iE L []) sl c) {c':List Nat} (hs:c=vd++x::c') (ho:L[x]? = some o)
  (virt:∀ t v,look vf t=some v→(∃ j o,j∈vd∧L[j]? = some o∧o.dst=some t∧val j=v)∨(look f0 t=some v∧∀ j o,j∈vd→L[j]? = some o→o.dst≠some t)) :
  ∀ t v,look (jS vf o.dst u) t=some v→(∃ j o,j∈vd++[x]∧L[j]? = some o∧o.dst=some t∧fT val x u j=v)∨(look f0 t=some v∧∀ j o,j∈vd++[x]→L[j]? = some o→o.dst≠some t):=by
 intro t v hl
 have hxvd:x ∉ vd:=fun hm=>by
  have:=hc.nodup
  rw [hs,List.nodup_append] at this
  exact this.2.2 x hm x qP rfl
 have old:look vf t=some v→o.dst≠some t→(∃ j o,j∈vd++[x]∧L[j]? = some o∧o.dst=some t∧fT val x u j=v)∨(look f0 t=some v∧∀ j o,j∈vd++[x]→L[j]? = some o→o.dst≠some t):=by
  intro hl hne
  rcases virt t v hl with ⟨j,oj,h1,h2,h3,h4⟩ | ⟨h1,h2⟩
  ·refine .inl ⟨j,oj,by simp [h1],h2,h3,?_⟩
   have:j≠x:=fun e=>hxvd (e ▸ h1)
   simp [fT,this,h4]
  ·refine .inr ⟨h1,fun j oj hj hjo=>?_⟩
   rcases List.mem_append.1 hj with hj | hj
   ·exact h2 j oj hj hjo
   ·simp only [List.mem_singleton] at hj
    subst hj
    rw [ho] at hjo
    obtain rfl:=Option.some.inj hjo
    exact hne
 cases hd:o.dst with
 | none=>rw [hd] at hl; exact old hl (by rw [hd]; simp)
 | some d =>
  rw [hd] at hl
  simp only [jS,look] at hl
  cases hb:Nat.beq d t with
  | true =>
   have:=Nat.eq_of_beq_eq_true hb
   subst this
   simp only [hb,Option.some.injEq] at hl
   exact .inl ⟨x,o,by simp,ho,hd,by simp [fT,hl]⟩
  | false =>
   simp only [hb] at hl
   exact old hl (by rw [hd]; intro e; simp only [Option.some.injEq] at e; subst e; simp at hb)
theorem CheckedX.dsts (hc:CheckedX L (iE L []) sl c) {i j:Nat} {oi oj:Oper} (hi:i∈c) (hj:j∈c) (hne:i≠j) (ho:L[i]? = some oi) (ho':L[j]? = some oj) {t:Nat} (ht:oi.dst=some t):oj.dst≠some t:=by
 obtain ⟨pre,post,hp⟩:=List.append_of_mem hi
 have hj':=hj
 rw [hp] at hj'
 rcases List.mem_append.1 hj' with hm | hm
 ·obtain ⟨p1,p2,hp2⟩:=List.append_of_mem hm
  exact fun h=>(hc.pair p1 j (p2++i::post) i oj oi (by rw [hp,hp2]; simp) qP ho' ho).1 t h ht
 ·rcases List.mem_cons.1 hm with rfl | hm
  ·exact absurd rfl hne
  ·exact (hc.pair pre i post j oi oj hp hm ho ho').1 t ht
structure InvX (P:Program) (N:Nat) (L:List Oper) (sl:List Nat) (f0:Fr) (G:Ctx) (K:jD) (c:List Nat) (D:Nat→Prop) (vd c':List Nat) (val:Nat→Value) (vf:Fr) (os:List Own) (fs:List bA) (a:Act) (w:World):Prop where
 split:c=vd++c'
 sub:∀ i,D i→i∈vd∨∃ o,L[i]? = some o∧isEa o=true
 clos:∀ i,D i→∀ j,gB .any L j i→D j
 defers:Marks (fun b=>G.D.1 b∧G.M b kQ) G.D.2 a.defers
 size:a.tmps.size=N
 act:∀ t v,((∃ j o,D j∧L[j]? = some o∧o.dst=some t∧val j=v)∨(look f0 t=some v∧∀ j o,D j→L[j]? = some o→o.dst≠some t))→a.tmps[t]? = some v
 virt:∀ t v,look vf t=some v→(∃ j o,j∈vd∧L[j]? = some o∧o.dst=some t∧val j=v)∨(look f0 t=some v∧∀ j o,j∈vd→L[j]? = some o→o.dst≠some t)
 pend:∀ k o,k∈vd→¬ D k→L[k]? = some o→Pend P L (iE L []) f0 vd val w k o
 early:∀ i,D i→i ∉ vd→∃ o t z r,L[i]? = some o∧o.op=.alloc t∧o.guard=none∧AllocZ P t z∧val i=.pointer (some ⟨r,0,none⟩)∧¬ G.A r∧∀ x,¬ G.M r x
 inj:∀ i j r,D i→i ∉ vd→D j→j ∉ vd→val i=.pointer (some ⟨r,0,none⟩)→val j=.pointer (some ⟨r,0,none⟩)→i=j
 st:Holds (GE P L G D vd val) os fs w
 vc:VCE P L [] [] [] sl c' vf os fs K
theorem InvX.inC (hc:CheckedX L (iE L []) sl c) {D:Nat→Prop} {vd c':List Nat} {val:Nat→Value} {vf:Fr} {os:List Own} {fs:List bA} {a:Act} {w:World} (h:InvX P N L sl f0 G K c D vd c' val vf os fs a w) {i:Nat} (hi:D i):i∈c:=by
 rcases h.sub i hi with h1 | ⟨o,h1,_⟩
 ·rw [h.split]; simp [h1]
 ·exact (hc.all i).2 (List.getElem?_eq_some_iff.1 h1).1
theorem virt_stepX (hc:CheckedX L (iE L []) sl c) {D:Nat→Prop} {vd c':List Nat} {k:Nat} {val:Nat→Value} {vf:Fr} {os:List Own} {fs:List bA} {a:Act} {w:World} {o:Oper}
  (h:InvX P N L sl f0 G K c D vd (k::c') val vf os fs a w) (ho:L[k]? = some o) (hdyn:dT o.op=false) :
  ∃ val' vf' fs',InvX P N L sl f0 G K c D (vd++[k]) c' val' vf' os fs' a w:=by
 have hnod:=hc.nodup
 rw [h.split,List.nodup_append] at hnod
 have hk:k ∉ vd:=fun hm=>hnod.2.2 k hm k qP rfl
 have hkD:¬ D k:=fun hd=>by
  rcases h.sub k hd with h1 | ⟨o',h1,h2⟩
  ·exact hk h1
  ·rw [ho] at h1
   obtain rfl:=Option.some.inj h1
   rw [tI h2] at hdyn; cases hdyn
 have src:=src_nextX hc h.split ho h.virt
 have hvc:=h.vc
 rw [qW _ _ _ _ _ _ _ _ _ _ _ _ o ho] at hvc
 simp only [inL_nil,selE,andB] at hvc
 have hsk:inL sl k=false:=by
  cases e:inL sl k with
  | false=>rfl
  | true =>
   have:=callV_dyn ((hc.self k o ((hc.all k).2 (List.getElem?_eq_some_iff.1 ho).1) ho).2 e)
   rw [hdyn] at this; cases this
 simp only [hsk,noB] at hvc
 have eqv:∀ i,(D i∧i ∉ vd++[k])↔(D i∧i ∉ vd):=fun i=>by
  constructor
  ·rintro ⟨h1,h2⟩; exact ⟨h1,fun hm=>h2 (by simp [hm])⟩
  ·rintro ⟨h1,h2⟩; exact ⟨h1,fun hm=>(List.mem_append.1 hm).elim h2 fun h=>hkD (by simp at h; exact h ▸ h1)⟩
 have fin:∀ (u:Value) (fs':List bA),Holds (GE P L G D vd val) os fs' w→VCE P L [] [] [] sl c' (jS vf o.dst u) os fs' K →
   ((gd L vf o.guard=some false∧u=undef)∨(gd L vf o.guard=some true∧∀ (a:Act) (w':World),KAt (eK o.op) vf a→(nO o.op=true∨Below w.heap.size w w')→(execOp a.eval o).run P w'=.ok (.value u) w')) →
   ∃ val' vf' fs',InvX P N L sl f0 G K c D (vd++[k]) c' val' vf' os fs' a w:=by
  intro u fs' hst hv hp
  have hval:∀ i,D i→fT val k u i=val i:=fun i hi=>by
   have:i≠k:=fun e=>hkD (e ▸ hi)
   simp [fT,this]
  refine ⟨fT val k u,jS vf o.dst u,fs',by rw [h.split]; simp,fun i hi=>(h.sub i hi).imp (fun h=>by simp [h]) id,h.clos,h.defers,h.size,?_,qZ hc h.split ho h.virt,?_,?_,?_,rB hst eqv (fun i hi _=>hval i hi),hv⟩
  ·intro t v ht
   refine h.act t v ?_
   rcases ht with ⟨j,oj,h1,h2,h3,h4⟩ | ht
   ·exact .inl ⟨j,oj,h1,h2,h3,by rw [hval j h1] at h4; exact h4⟩
   ·exact .inr ht
  ·intro x ox hx hnD hox
   rcases List.mem_append.1 hx with hx | hx
   ·exact (h.pend x ox hx hnD hox).keep hk hx (.inr (Below.refl _ _))
   ·simp only [List.mem_singleton] at hx
    subst hx
    rw [ho] at hox
    obtain rfl:=Option.some.inj hox
    refine ⟨hdyn,vf,fun t v ht hl=>(src t v ht hl).keep hk,?_⟩
    rcases hp with ⟨h1,h2⟩ | ⟨h1,h2⟩
    ·exact .inl ⟨h1,by simp [fT,h2]⟩
    ·exact .inr ⟨h1,fun a w' ha hb=>by simpa [fT] using h2 a w' ha hb⟩
  ·intro i hi hiv
   obtain ⟨g1,g2⟩:=(eqv i).1 ⟨hi,hiv⟩
   rw [hval i hi]; exact h.early i g1 g2
  ·intro i j r hi hiv hj hjv e1 e2
   rw [hval i hi] at e1
   rw [hval j hj] at e2
   exact h.inj i j r hi ((eqv i).1 ⟨hi,hiv⟩).2 hj ((eqv j).1 ⟨hj,hjv⟩).2 e1 e2
 cases hg:gd L vf o.guard with
 | none=>simp only [hg,orF] at hvc
 | some b =>
  cases b with
  | false=>simp only [hg,orF] at hvc; exact fin undef fs h.st hvc (.inl ⟨hg,rfl⟩)
  | true =>
   simp only [hg,orF] at hvc
   cases hv:detv vf o.op with
   | some v=>simp only [hv,orV] at hvc; exact fin v fs h.st hvc (.inr ⟨hg,fun a w' ha _=>gK P ha hv w'⟩)
   | none =>
    simp only [hv,orV] at hvc
    cases hfa:isFa o.op with
    | true =>
     obtain ⟨s,hs1,hs2⟩:=fa_sem o hfa hvc
     obtain ⟨v,fs',h1,h2,h3⟩:=hs2 _ w h.st
     exact fin v fs' h3 h2 (.inr ⟨hg,fun a w' ha _=>by rw [hs1 a ha]; exact h1 w' trivial⟩)
    | false =>
    obtain ⟨s,hs⟩:=DoK.sem o hvc
    obtain ⟨v,fs',h1,h2,h3⟩:=hs.det hdyn _ w h.st
    exact fin v fs' h3 h2 (.inr ⟨hg,fun a w' ha hb=>by
     rcases hb with hb | hb
     ·exact (pu_dok hb hfa hvc).elim
     ·rw [hs.same a ha]; exact h1 w' hb⟩)
theorem virt_eax (hc:CheckedX L (iE L []) sl c) {D:Nat→Prop} {vd c':List Nat} {k:Nat} {val:Nat→Value} {vf:Fr} {os:List Own} {fs:List bA} {a:Act} {w:World}
  (h:InvX P N L sl f0 G K c D vd (k::c') val vf os fs a w) (hD:D k):∃ vf' os' fs',InvX P N L sl f0 G K c D (vd++[k]) c' val vf' os' fs' a w:=by
 have hnod:=hc.nodup
 rw [h.split,List.nodup_append] at hnod
 have hk:k ∉ vd:=fun hm=>hnod.2.2 k hm k qP rfl
 obtain ⟨o,t,z,r,ho,hop,hgd,hz,hval,hA,hM⟩:=h.early k hD hk
 have hvc:=h.vc
 rw [qW _ _ _ _ _ _ _ _ _ _ _ _ o ho] at hvc
 simp only [inL_nil,selE,andB] at hvc
 have hsk:inL sl k=false:=by
  cases e:inL sl k with
  | false=>rfl
  | true =>
   have:=(hc.self k o ((hc.all k).2 (List.getElem?_eq_some_iff.1 ho).1) ho).2 e
   rw [hop] at this; cases this
 simp only [hsk,noB] at hvc
 simp only [hgd,gd,orF,hop,detv,orV,DoK] at hvc
 obtain ⟨z2,hz2,hany⟩:=hvc.any
 obtain rfl:=AllocZ.uniq hz2 hz
 have hpk:PBe P L D vd val r (.cells z2 t):=⟨k,o,t,z2,hD,hk,ho,hop,hz,hval,rfl⟩
 obtain ⟨k1,k2,k3⟩:=h.st.kept r _ (.inr hpk)
 have sub:∀ b x,PBe P L D (vd++[k]) val b x→PBe P L D vd val b x:=fun b x ⟨i,o,t,z,h1,h2,h3⟩=>⟨i,o,t,z,h1,fun hm=>h2 (by simp [hm]),h3⟩
 have nr:∀ x,¬ PBe P L D (vd++[k]) val r x:=fun x ⟨i,o,t,z,h1,h2,_,_,_,h6,_⟩=>by
  have:=h.inj i k r h1 (fun hm=>h2 (by simp [hm])) hD hk h6 hval
  exact h2 (by simp [this])
 have hst:Holds ⟨fun b=>(G.A b∨∃ x,PBe P L D (vd++[k]) val b x)∨b=r,G.B,G.w0,fun b x=>G.M b x∨PBe P L D (vd++[k]) val b x,G.D⟩ os fs w:=by
  refine Holds.iff h.st (fun b=>?_) fun b x hb=>hb.imp id (sub b x)
  constructor
  ·rintro ((h1 | ⟨x,h1⟩) | rfl)
   ·exact .inl h1
   ·exact .inr ⟨x,sub b x h1⟩
   ·exact .inr ⟨_,hpk⟩
  ·rintro (h1 | ⟨x,i,oi,ti,zi,h1,h2,h3,h4,h5,h6,h7⟩)
   ·exact .inl (.inl h1)
   ·by_cases hik:i=k
    ·subst hik
     rw [hval] at h6
     simp only [Value.pointer.injEq,Option.some.injEq,Addr.mk.injEq,and_true] at h6
     exact .inr h6.symm
    ·exact .inl (.inr ⟨x,i,oi,ti,zi,h1,fun hm=>(List.mem_append.1 hm).elim h2 fun h=>hik (by simpa using h),h3,h4,h5,h6,h7⟩)
 obtain ⟨os',fs',hv,hh⟩:=hany _ _ _ _ _ _ r k1 (fun h1=>h1.elim hA fun ⟨x,hx⟩=>nr x hx) (fun x h1=>h1.elim (hM x) (nr x)) k2 hst
 have hself:fT val k (.pointer (some ⟨r,0,none⟩))=val:=by
  funext j; unfold fT; split
  ·rename_i e; rw [e,hval]
  ·rfl
 have hvk:=qZ (u:=.pointer (some ⟨r,0,none⟩)) hc h.split ho h.virt
 rw [hself] at hvk
 refine ⟨jS vf o.dst (.pointer (some ⟨r,0,none⟩)),os',fs',by rw [h.split]; simp,fun i hi=>(h.sub i hi).imp (fun h=>by simp [h]) id,h.clos,h.defers,h.size,h.act,hvk,fun x ox hx hnD hox=>?_,fun i hi hiv=>h.early i hi fun hm=>hiv (by simp [hm]),
  fun i j r' hi hiv hj hjv e1 e2=>h.inj i j r' hi (fun hm=>hiv (by simp [hm])) hj (fun hm=>hjv (by simp [hm])) e1 e2,hh,hv⟩
 have hxv:x∈vd:=(List.mem_append.1 hx).resolve_right fun h=>hnD (by simp at h; exact h ▸ hD)
 have:=(h.pend x ox hxv hnD hox).keep (u:=.pointer (some ⟨r,0,none⟩)) hk hxv (.inr (Below.refl _ _))
 rw [hself] at this
 exact this
theorem do_pendX (hc:CheckedX L (iE L []) sl c) (hdst:eO N L=true) {Q:iX} {D:Nat→Prop} {vd c':List Nat} {k:Nat} {val:Nat→Value} {vf:Fr} {os:List Own} {fs:List bA} {a:Act} {w:World} {o:Oper} {rest:List Nat}
  (h:InvX P N L sl f0 G K c D vd c' val vf os fs a w) (ho:L[k]? = some o) (hk:k∈vd) (hnD:¬ D k) (hready:∀ j,gB .any L j k→D j)
  (next:∀ a',InvX P N L sl f0 G K c (fun i=>D i∨i=k) vd c' val vf os fs a' w→dK P L.toArray (Qhat N G Q) rest a' w):dK P L.toArray (Qhat N G Q) (k::rest) a w:=by
 have hdk:=dst_of hdst ho
 obtain ⟨_,fk,hsrc,hcase⟩:=h.pend k o hk hnD ho
 have hkat:KAt (cQ L o) fk a:=gT h.clos hnD hready h.act hsrc
 have hkat':KAt (eK o.op) fk a:=fun t v ht=>hkat t v (List.mem_append_left _ ht)
 have hkc:k∈c:=by rw [h.split]; simp [hk]
 have distinct:∀ j oj,D j→L[j]? = some oj→∀ t,o.dst=some t→oj.dst≠some t:=fun j oj hj hjo t ht =>
  hc.dsts hkc (h.inC hc hj) (fun e=>hnD (e ▸ hj)) ho hjo ht
 have eqv:∀ i,((D i∨i=k)∧i ∉ vd)↔(D i∧i ∉ vd):=fun i=>by
  constructor
  ·rintro ⟨h1 | rfl,h2⟩
   ·exact ⟨h1,h2⟩
   ·exact absurd hk h2
  ·rintro ⟨h1,h2⟩; exact ⟨.inl h1,h2⟩
 have inv':InvX P N L sl f0 G K c (fun i=>D i∨i=k) vd c' val vf os fs (a.put o.dst (val k)) w:=by
  refine ⟨h.split,fun i hi=>hi.elim (h.sub i) (fun e=>.inl (e ▸ hk)),fun i hi j hj=>?_,?_,?_,lE hdk h.size ho distinct h.act,h.virt,fun x ox hx hnx=>h.pend x ox hx (fun hx'=>hnx (.inl hx')),
   fun i hi hiv=>h.early i ((eqv i).1 ⟨hi,hiv⟩).1 hiv,fun i j r hi hiv hj hjv=>h.inj i j r ((eqv i).1 ⟨hi,hiv⟩).1 hiv ((eqv j).1 ⟨hj,hjv⟩).1 hjv,rB h.st eqv (fun _ _ _=>rfl),h.vc⟩
  ·rcases hi with hi | rfl
   ·exact .inl (h.clos i hi j hj)
   ·exact .inl (hready j hj)
  ·have:=h.defers; cases hd:o.dst <;> simpa [Act.put] using this
  ·cases hd:o.dst <;> simp [Act.put,h.size]
 have ho':L.toArray[k]? = some o:=by simpa using ho
 simp only [dK,ho']
 rcases hcase with ⟨h1,h2⟩ | ⟨h1,h2⟩
 ·rw [fW hkat h1]
  simp only [Bool.false_eq_true,if_false]
  rw [← h2]
  exact next _ inv'
 ·rw [fW hkat h1]
  simp only [if_true]
  left
  unfold Oper.wpA
  rw [h2 a w hkat' (.inr (Below.refl _ _))]
  exact next _ inv'
theorem do_eax (hc:CheckedX L (iE L []) sl c) (hdst:eO N L=true) (hz0:mX P L=true) {Q:iX} {D:Nat→Prop} {vd c':List Nat} {k:Nat} {val:Nat→Value} {vf:Fr} {os:List Own} {fs:List bA} {a:Act} {w:World} {o:Oper} {rest:List Nat}
  (h:InvX P N L sl f0 G K c D vd c' val vf os fs a w) (ho:L[k]? = some o) (hea:isEa o=true) (hnD:¬ D k) (hready:∀ j,gB .any L j k→D j)
  (next:∀ val' a' w',InvX P N L sl f0 G K c (fun i=>D i∨i=k) vd c' val' vf os fs a' w'→dK P L.toArray (Qhat N G Q) rest a' w'):dK P L.toArray (Qhat N G Q) (k::rest) a w:=by
 have hdk:=dst_of hdst ho
 obtain ⟨⟨t,hop⟩,hg⟩:=isEa_iff hea
 obtain ⟨z,hz⟩:=tM hz0 ho hop hg
 have hkv:k ∉ vd:=fun hm=>by
  have:=(h.pend k o hm hnD ho).1
  rw [tI hea] at this; cases this
 have hkc:k∈c:=(hc.all k).2 (List.getElem?_eq_some_iff.1 ho).1
 have distinct:∀ j oj,D j→L[j]? = some oj→∀ t,o.dst=some t→oj.dst≠some t:=fun j oj hj hjo t ht =>
  hc.dsts hkc (h.inC hc hj) (fun e=>hnD (e ▸ hj)) ho hjo ht
 have hb:Below w.heap.size w (w.alloc (.cells z t)):=(Below.refl _ _).alloc (Nat.le_refl _) _
 let u:Value:=.pointer (some ⟨w.heap.size,0,none⟩)
 have hself:fT val k u k=u:=by simp [fT]
 have hval:∀ i,i≠k→fT val k u i=val i:=fun i hi=>by simp [fT,hi]
 have hnD':∀ i,D i→i≠k:=fun i hi e=>hnD (e ▸ hi)
 have old:∀ i r,D i→i ∉ vd→val i=.pointer (some ⟨r,0,none⟩)→r<w.heap.size:=fun i r hi hiv e=>by
  obtain ⟨oi,ti,zi,ri,g1,g2,g3,g4,g5,_⟩:=h.early i hi hiv
  rw [g5] at e
  simp only [Value.pointer.injEq,Option.some.injEq,Addr.mk.injEq,and_true] at e
  subst e
  exact (Array.getElem?_eq_some_iff.1 (h.st.kept ri _ (.inr ⟨i,oi,ti,zi,hi,hiv,g1,g2,g4,g5,rfl⟩)).2.1).1
 have hst:Holds (GE P L G (fun i=>D i∨i=k) vd (fT val k u)) os fs (w.alloc (.cells z t)):=by
  refine Holds.iff (h.st.apartB (.cells z t)) (fun b=>?_) fun b x hb=>?_
  ·constructor
   ·rintro (h1 | ⟨x,i,oi,ti,zi,h1,h2,h3,h4,h5,h6,h7⟩)
    ·exact .inl (.inl h1)
    ·rcases h1 with h1 | rfl
     ·rw [hval i (hnD' i h1)] at h6
      exact .inl (.inr ⟨x,i,oi,ti,zi,h1,h2,h3,h4,h5,h6,h7⟩)
     ·rw [hself] at h6
      simp only [u,Value.pointer.injEq,Option.some.injEq,Addr.mk.injEq,and_true] at h6
      exact .inr h6.symm
   ·rintro ((h1 | ⟨x,i,oi,ti,zi,h1,h2,h3,h4,h5,h6,h7⟩) | rfl)
    ·exact .inl h1
    ·exact .inr ⟨x,i,oi,ti,zi,.inl h1,h2,h3,h4,h5,by rw [hval i (hnD' i h1)]; exact h6,h7⟩
    ·exact .inr ⟨_,k,o,t,z,.inr rfl,hkv,ho,hop,hz,hself,rfl⟩
  ·rcases hb with h1 | ⟨i,oi,ti,zi,h1,h2,h3,h4,h5,h6,h7⟩
   ·exact .inl (.inl h1)
   ·rcases h1 with h1 | rfl
    ·rw [hval i (hnD' i h1)] at h6
     exact .inl (.inr ⟨i,oi,ti,zi,h1,h2,h3,h4,h5,h6,h7⟩)
    ·rw [hself] at h6
     simp only [u,Value.pointer.injEq,Option.some.injEq,Addr.mk.injEq,and_true] at h6
     rw [ho] at h3
     obtain rfl:=Option.some.inj h3
     rw [hop] at h4
     simp only [Op.alloc.injEq] at h4
     subst h4
     rw [h7,AllocZ.uniq h5 hz]
     exact .inr ⟨h6.symm,rfl⟩
 have inv':InvX P N L sl f0 G K c (fun i=>D i∨i=k) vd c' (fT val k u) vf os fs (a.put o.dst u) (w.alloc (.cells z t)):=by
  refine ⟨h.split,fun i hi=>?_,fun i hi j hj=>?_,?_,?_,?_,fun t v ht=>?_,fun x ox hx hnx hox=>?_,fun i hi hiv=>?_,fun i j r hi hiv hj hjv e1 e2=>?_,hst,h.vc⟩
  ·rcases hi with hi | rfl
   ·exact h.sub i hi
   ·exact .inr ⟨o,ho,hea⟩
  ·rcases hi with hi | rfl
   ·exact .inl (h.clos i hi j hj)
   ·exact .inl (hready j hj)
  ·have:=h.defers; cases hd:o.dst <;> simpa [Act.put] using this
  ·cases hd:o.dst <;> simp [Act.put,h.size]
  ·have:=lE (val:=fT val k u) (f0:=f0) (D:=D) hdk h.size ho distinct (fun t v ht=>h.act t v (by
    rcases ht with ⟨j,oj,h1,h2,h3,h4⟩ | ht
    ·exact .inl ⟨j,oj,h1,h2,h3,by rw [hval j (hnD' j h1)] at h4; exact h4⟩
    ·exact .inr ht))
   rw [hself] at this
   exact this
  ·rcases h.virt t v ht with ⟨j,oj,h1,h2,h3,h4⟩ | h1
   ·exact .inl ⟨j,oj,h1,h2,h3,by rw [hval j (fun e=>hkv (e ▸ h1))]; exact h4⟩
   ·exact .inr h1
  ·have hxk:x≠k:=fun e=>hkv (e ▸ hx)
   obtain ⟨g0,fk,g1,g2⟩:=h.pend x ox hx (fun hd=>hnx (.inl hd)) hox
   refine ⟨g0,fk,fun t v ht hl=>?_,?_⟩
   ·rcases g1 t v ht hl with ⟨j,oj,q1,q2,q3,q4,q5⟩ | q
    ·exact .inl ⟨j,oj,q1,q2,q3,by rw [hval j (fun e=>hkv (e ▸ q1))]; exact q4,q5⟩
    ·exact .inr q
   ·rw [hval x hxk]
    rcases g2 with g2 | ⟨g2,g3⟩
    ·exact .inl g2
    ·exact .inr ⟨g2,fun a w'' ha hb'=>g3 a w'' ha (hb'.imp id fun hb'=>hb.trans (hb'.mono hb.size))⟩
  ·rcases hi with hi | rfl
   ·obtain ⟨oi,ti,zi,ri,g1,g2,g3,g4,g5,g6⟩:=h.early i hi hiv
    exact ⟨oi,ti,zi,ri,g1,g2,g3,g4,by rw [hval i (hnD' i hi)]; exact g5,g6⟩
   ·refine ⟨o,t,z,w.heap.size,ho,hop,hg,hz,hself,fun hA=>?_,fun x hM=>?_⟩
    ·exact Nat.lt_irrefl _ (h.st.low _ (.inl hA)).1
    ·exact Nat.lt_irrefl _ (Array.getElem?_eq_some_iff.1 (h.st.kept _ x (.inl hM)).2.1).1
  ·rcases hi with hi | rfl
   ·rw [hval i (hnD' i hi)] at e1
    rcases hj with hj | rfl
    ·rw [hval j (hnD' j hj)] at e2
     exact h.inj i j r hi hiv hj hjv e1 e2
    ·rw [hself] at e2
     simp only [u,Value.pointer.injEq,Option.some.injEq,Addr.mk.injEq,and_true] at e2
     have:=old i r hi hiv e1
     omega
   ·rw [hself] at e1
    simp only [u,Value.pointer.injEq,Option.some.injEq,Addr.mk.injEq,and_true] at e1
    rcases hj with hj | rfl
    ·rw [hval j (hnD' j hj)] at e2
     have:=old j r hj hjv e2
     omega
    ·rfl
 have ho':L.toArray[k]? = some o:=by simpa using ho
 simp only [dK,ho']
 have hwant:Region.wanted o (yielded L.toArray a.tmps)=true:=by simp [Region.wanted,hg]
 rw [hwant]
 simp only [if_true]
 left
 unfold Oper.wpA
 have hrun:(execOp a.eval o).run P w=.ok (.value u) (w.alloc (.cells z t)):=by
  have:=hz w
  unfold execOp
  simp only [hop]
  exact this
 rw [hrun]
 exact next _ _ _ inv'
theorem do_dynX (hc:CheckedX L (iE L []) sl c) (hdst:eO N L=true) {Q:iX} {D:Nat→Prop} {vd c':List Nat} {k:Nat} {val:Nat→Value} {vf:Fr} {os:List Own} {fs:List bA} {a:Act} {w:World} {o:Oper} {rest:List Nat}
  (h:InvX P N L sl f0 G K c D vd (k::c') val vf os fs a w) (ho:L[k]? = some o) (hdyn:dT o.op=true) (hea:isEa o=false) (hnD:¬ D k) (hready:∀ j,gB .any L j k→D j)
  (next:∀ val' vf' os' fs' a' w',InvX P N L sl f0 G K c (fun i=>D i∨i=k) (vd++[k]) c' val' vf' os' fs' a' w'→dK P L.toArray (Qhat N G Q) rest a' w'):dK P L.toArray (Qhat N G Q) (k::rest) a w:=by
 have hdk:=dst_of hdst ho
 have hnod:=hc.nodup
 rw [h.split,List.nodup_append] at hnod
 have hk:k ∉ vd:=fun hm=>hnod.2.2 k hm k qP rfl
 have hkc:k∈c:=by rw [h.split]; simp
 have src:=src_nextX hc h.split ho h.virt
 have hkat:KAt (cQ L o) vf a:=gT h.clos hnD hready h.act src
 have hkat':KAt (eK o.op) vf a:=fun t v ht=>hkat t v (List.mem_append_left _ ht)
 have distinct:∀ j oj,D j→L[j]? = some oj→∀ t,o.dst=some t→oj.dst≠some t:=fun j oj hj hjo t ht =>
  hc.dsts hkc (h.inC hc hj) (fun e=>hnD (e ▸ hj)) ho hjo ht
 have hvc:=h.vc
 rw [qW _ _ _ _ _ _ _ _ _ _ _ _ o ho] at hvc
 simp only [inL_nil,selE,andB] at hvc
 have eqv:∀ i,((D i∨i=k)∧i ∉ vd++[k])↔(D i∧i ∉ vd):=fun i=>by
  constructor
  ·rintro ⟨h1 | rfl,h2⟩
   ·exact ⟨h1,fun hm=>h2 (by simp [hm])⟩
   ·simp at h2
  ·rintro ⟨h1,h2⟩; exact ⟨.inl h1,fun hm=>(List.mem_append.1 hm).elim h2 fun h=>hnD (by simp at h; exact h ▸ h1)⟩
 have inv':∀ (u:Value) (os':List Own) (fs':List bA) (w':World),Holds (GE P L G D vd val) os' fs' w'→VCE P L [] [] [] sl c' (jS vf o.dst u) os' fs' K→((∀ i o,i∈vd→L[i]? = some o→D i∨nO o.op=true)∨Below w.heap.size w w') →
   InvX P N L sl f0 G K c (fun i=>D i∨i=k) (vd++[k]) c' (fT val k u) (jS vf o.dst u) os' fs' (a.put o.dst u) w':=by
  intro u os' fs' w' hst hv hpd
  have hset:fT val k u k=u:=by simp [fT]
  have hval:∀ i,D i→fT val k u i=val i:=fun i hi=>by
   have:i≠k:=fun e=>hnD (e ▸ hi)
   simp [fT,this]
  refine ⟨by rw [h.split]; simp,fun i hi=>?_,fun i hi j hj=>?_,?_,?_,?_,qZ hc h.split ho h.virt,fun x ox hx hnx hox=>?_,fun i hi hiv=>?_,fun i j r hi hiv hj hjv e1 e2=>?_,rB hst eqv (fun i hi _=>hval i hi),hv⟩
  ·rcases hi with hi | rfl
   ·exact (h.sub i hi).imp (fun h=>by simp [h]) id
   ·simp
  ·rcases hi with hi | rfl
   ·exact .inl (h.clos i hi j hj)
   ·exact .inl (hready j hj)
  ·have:=h.defers; cases hd:o.dst <;> simpa [Act.put] using this
  ·cases hd:o.dst <;> simp [Act.put,h.size]
  ·have:=lE (val:=fT val k u) (f0:=f0) (D:=D) hdk h.size ho distinct (fun t v ht=>h.act t v (by
    rcases ht with ⟨j,oj,h1,h2,h3,h4⟩ | ht
    ·exact .inl ⟨j,oj,h1,h2,h3,by rw [hval j h1] at h4; exact h4⟩
    ·exact .inr ht))
   rw [hset] at this
   exact this
  ·have hxv:x∈vd:=by
    rcases List.mem_append.1 hx with hx | hx
    ·exact hx
    ·exact absurd (.inr (by simpa using hx)) hnx
   have hnx':¬ D x:=fun hd=>hnx (.inl hd)
   rcases hpd with hpd | hb
   ·rcases hpd x ox hxv hox with h1 | h1
    ·exact absurd h1 hnx'
    ·exact (h.pend x ox hxv hnx' hox).keep hk hxv (.inl h1)
   ·exact (h.pend x ox hxv hnx' hox).keep hk hxv (.inr hb)
  ·obtain ⟨g1,g2⟩:=(eqv i).1 ⟨hi,hiv⟩
   rw [hval i g1]; exact h.early i g1 g2
  ·obtain ⟨g1,g2⟩:=(eqv i).1 ⟨hi,hiv⟩
   obtain ⟨g3,g4⟩:=(eqv j).1 ⟨hj,hjv⟩
   rw [hval i g1] at e1
   rw [hval j g3] at e2
   exact h.inj i j r g1 g2 g3 g4 e1 e2
 have ho':L.toArray[k]? = some o:=by simpa using ho
 simp only [dK,ho']
 cases hg:gd L vf o.guard with
 | none=>simp only [hg,orF] at hvc
 | some b =>
  rw [fW hkat hg]
  cases b with
  | false =>
   simp only [hg,orF] at hvc
   simp only [Bool.false_eq_true,if_false]
   exact next _ _ _ _ _ _ (inv' undef os fs w h.st hvc (.inr (Below.refl _ _)))
  | true =>
   simp only [hg,orF] at hvc
   simp only [if_true]
   left
   unfold Oper.wpA
   cases hv:detv vf o.op with
   | some v =>
    simp only [hv,orV] at hvc
    rw [gK P hkat' hv w]
    exact next _ _ _ _ _ _ (inv' v os fs w h.st hvc (.inr (Below.refl _ _)))
   | none =>
    simp only [hv,orV] at hvc
    have main:Comes1 P (fun v w'=>((∀ i o,i∈vd→L[i]? = some o→D i∨nO o.op=true)∨Below w.heap.size w w')∧∃ os' fs',VCE P L [] [] [] sl c' (jS vf o.dst v) os' fs' K∧Holds (GE P L G D vd val) os' fs' w') ((execOp a.eval o).run P w):=by
     have stl:(sD o.op||inL sl k)=true→∀ i oi,i∈vd→L[i]? = some oi→D i∨nO oi.op=true:=fun hst i oi hi hoi=>by
      cases hpu:nO oi.op with
      | true=>exact .inr rfl
      | false =>
      left
      obtain ⟨pre,post,hp⟩:=List.append_of_mem hi
      have:=(hc.pair pre i (post++k::c') k oi o (by rw [h.split,hp]; simp) qP hoi ho).2 (.inr (.inr (.inr ⟨hst,hpu⟩)))
      exact (nY this).closed h.clos hready
     cases hsk:inL sl k with
     | true =>
      simp only [hsk,noB] at hvc
      obtain ⟨s,hs1,hs2⟩:=DoK.semD o ((hc.self k o ((hc.all k).2 (List.getElem?_eq_some_iff.1 ho).1) ho).2 hsk) hvc
      rw [hs1 a hkat']
      exact (hs2 _ w h.st).mono fun v w' h2=>⟨.inl (stl (by rw [hsk,Bool.or_true])),h2⟩
     | false =>
     simp only [hsk,noB] at hvc
     obtain ⟨s,hs⟩:=DoK.sem o hvc
     rw [hs.same a hkat']
     cases hst:sD o.op with
     | false=>exact (hs.grw hst _ w h.st).mono fun v w' ⟨h1,h2⟩=>⟨.inr h1,h2⟩
     | true=>exact (hs.dyn _ w h.st).mono fun v w' h2=>⟨.inl (stl (by rw [hst,Bool.true_or])),h2⟩
    generalize (execOp a.eval o).run P w=res at main
    match res,main with
    | .ok (.value v) w',⟨h1,os',fs',h2,h3⟩=>exact next _ _ _ _ _ _ (inv' v os' fs' w' h3 h2 h1)
    | .ok .skip w',⟨h1,os',fs',h2,h3⟩=>exact next _ _ _ _ _ _ (inv' undef os' fs' w' h3 h2 h1)
    | .ok (.enter g args) w',hcall =>
     refine Calls.mono hcall ?_
     rintro e w'' ⟨v,rfl,h1,os',fs',h2,h3⟩
     exact next _ _ _ _ _ _ (inv' v os' fs' w'' h3 h2 h1)
    | .ok (.round l g tmps assign body) w',hcall =>
     refine RoundIn.mono hcall ?_
     rintro e w'' ⟨v,rfl,h1,os',fs',h2,h3⟩
     exact next _ _ _ _ _ _ (inv' v os' fs' w'' h3 h2 h1)
theorem vI (hc:CheckedX L (iE L []) sl c):∀ (pre:List Nat) {D:Nat→Prop} {vd c':List Nat} {val:Nat→Value} {vf:Fr} {fs:List bA} {os:List Own} {a:Act} {w:World},
  InvX P N L sl f0 G K c D vd (pre++c') val vf os fs a w→(∀ x,x∈pre→∀ o,L[x]? = some o→dT o.op=false∨D x) →
  ∃ val' vf' os' fs',InvX P N L sl f0 G K c D (vd++pre) c' val' vf' os' fs' a w
 | [],D,vd,c',val,vf,fs,os,a,w,h,_=>⟨val,vf,os,fs,by simpa using h⟩
 | x::pre,D,vd,c',val,vf,fs,os,a,w,h,hd=>by
  have hx:x<L.length:=(hc.all x).1 (by rw [h.split]; simp)
  have hox:L[x]? = some L[x]:=by simp [hx]
  obtain ⟨val1,vf1,os1,fs1,h1⟩:∃ val1 vf1 os1 fs1,InvX P N L sl f0 G K c D (vd++[x]) (pre++c') val1 vf1 os1 fs1 a w:=by
   rcases hd x qP _ hox with h1 | h1
   ·obtain ⟨v1,v2,v3,h2⟩:=virt_stepX hc h hox h1
    exact ⟨v1,v2,os,v3,h2⟩
   ·obtain ⟨v2,v3,v4,h2⟩:=virt_eax hc h h1
    exact ⟨val,v2,v3,v4,h2⟩
  obtain ⟨val2,vf2,os2,fs2,h2⟩:=vI hc pre (vd:=vd++[x]) h1 (fun y hy=>hd y (by simp [hy]))
  exact ⟨val2,vf2,os2,fs2,by simpa using h2⟩
theorem simEx (hc:CheckedX L (iE L []) sl c) (hdst:eO N L=true) (hz0:mX P L=true) {Q:iX} (hQ:Q .normal=K):∀ (l:List Nat) (D:Nat→Prop) {vd c':List Nat} {val:Nat→Value} {vf:Fr} {os:List Own} {fs:List bA} {a:Act} {w:World},
  InvX P N L sl f0 G K c D vd c' val vf os fs a w→(∀ i,i<L.length↔D i∨i∈l)→l.Nodup→(∀ i,i∈l→¬ D i) →
  (∀ pre i post,l=pre++i::post→∀ j,gB .any L j i→D j∨j∈pre)→dK P L.toArray (Qhat N G Q) l a w
 | [],D,vd,c',val,vf,os,fs,a,w,h0,hall,_,_,_=>by
  have hallD:∀ i,i<L.length→D i:=fun i hi=>((hall i).1 hi).resolve_right qP
  obtain ⟨val,vf,os,fs,h⟩:=vI (c':=[]) hc c' (by simpa using h0) (fun x hx o hox=>.inr (hallD x (List.getElem?_eq_some_iff.1 hox).1))
  have hv:=h.vc
  have hvd:∀ j,j∈vd++c'→D j:=fun j hj=>hallD j ((hc.all j).1 (by rw [h.split]; simpa using hj))
  have hin:∀ j,D j→j∈vd++c':=fun j hj=>by
   have:=h.inC hc hj
   rw [h.split] at this; simpa using this
  have hst:Holds G os fs w:=Holds.iff h.st (fun b=>⟨.inl,fun h1=>h1.elim id fun ⟨x,i,o,t,z,g1,g2,_⟩=>absurd (hin i g1) g2⟩) fun b x hb=>.inl hb
  refine ⟨G,Ext.refl G,vf,os,fs,⟨h.defers,h.size,fun t v ht=>h.act t v ?_⟩,hst,by rw [hQ]; exact hv⟩
  rcases h.virt t v ht with ⟨j,o,h1,h2,h3,h4⟩ | ⟨h1,h2⟩
  ·exact .inl ⟨j,o,hvd j h1,h2,h3,h4⟩
  ·exact .inr ⟨h1,fun j o hj=>h2 j o (hin j hj)⟩
 | i::rest,D,vd,c',val,vf,os,fs,a,w,h,hall,hnod,hdis,hbef=>by
  have hi:i<L.length:=(hall i).2 (.inr qP)
  have ho:L[i]? = some L[i]:=by simp [hi]
  have hnD:¬ D i:=hdis i qP
  have hready:∀ j,gB .any L j i→D j:=fun j hj=>(hbef [] i rest rfl j hj).resolve_right qP
  have nx:∀ {vd c':List Nat} {val:Nat→Value} {vf:Fr} {os:List Own} {fs:List bA} {a:Act} {w:World},
    InvX P N L sl f0 G K c (fun x=>D x∨x=i) vd c' val vf os fs a w→dK P L.toArray (Qhat N G Q) rest a w:=by
   intro vd c' val vf os fs a w h'
   refine simEx hc hdst hz0 hQ rest (fun x=>D x∨x=i) h' (fun x=>?_) (List.nodup_cons.1 hnod).2 (fun x hx hx'=>?_) (fun pre x post hp j hj=>?_)
   ·rw [hall x,List.mem_cons]
    constructor
    ·rintro (h | h | h)
     ·exact .inl (.inl h)
     ·exact .inl (.inr h)
     ·exact .inr h
    ·rintro ((h | h) | h)
     ·exact .inl h
     ·exact .inr (.inl h)
     ·exact .inr (.inr h)
   ·rcases hx' with hx' | rfl
    ·exact hdis x (by simp [hx]) hx'
    ·exact (List.nodup_cons.1 hnod).1 hx
   ·rcases hbef (i::pre) x post (by rw [hp]; rfl) j hj with hj' | hj'
    ·exact .inl (.inl hj')
    ·rcases List.mem_cons.1 hj' with rfl | hj'
     ·exact .inl (.inr rfl)
     ·exact .inr hj'
  cases hea:isEa L[i] with
  | true=>exact do_eax hc hdst hz0 h ho hea hnD hready fun _ _ _ h'=>nx h'
  | false =>
  by_cases hiv:i∈vd
  ·exact do_pendX hc hdst h ho hiv hnD hready fun a' h'=>nx h'
  ·have hic:i∈c:=(hc.all i).2 hi
   rw [h.split] at hic
   obtain ⟨pre,post,hp⟩:=List.append_of_mem ((List.mem_append.1 hic).resolve_left hiv)
   have hpre:∀ x,x∈pre→∀ o,L[x]? = some o→dT o.op=false∨D x:=by
    intro x hx o hox
    cases hd:dT o.op with
    | false=>exact .inl rfl
    | true =>
     obtain ⟨p1,p2,hp2⟩:=List.append_of_mem hx
     have:=(hc.pair (vd++p1) x (p2++i::post) i o L[i] (by rw [h.split,hp,hp2]; simp) qP hox ho).2 (.inr (.inr (.inl ⟨hd,hea⟩)))
     exact .inr ((nY this).closed h.clos hready)
   rw [hp] at h
   obtain ⟨val1,vf1,os1,fs1,h1⟩:=vI hc pre h hpre
   cases hdyn:dT L[i].op with
   | false =>
    obtain ⟨val2,vf2,fs2,h2⟩:=virt_stepX hc h1 ho hdyn
    exact do_pendX hc hdst h2 ho qP hnD hready fun a' h'=>nx h'
   | true=>exact do_dynX hc hdst h1 ho hdyn hea hnD hready fun _ _ _ _ _ _ h'=>nx h'
end
theorem draw_ex {P:Program} {N id:Nat} {L:List Oper} {f:Fr} {os:List Own} {fs:List bA} {K:jD} (sl c g:List Nat) (hok:drawX L sl c g=true) (hdst:eO N L=true) (hz:mX P L=true)
  (k:VCE P L [] [] [] sl c f os fs K):DrawK P N id L f os fs K:=by
 refine ⟨fun G Q hQ r a w hk hw=>sT fun t=>?_⟩
 have hc:=drawX_sound hok
 have hord:=uA hok (P.follows .mixedOrders) t
 have hw':Holds G os fs { w with drawn:=w.drawn+1 }:=hw.grow ((Below.refl w.heap.size w).drew)
 refine simEx (f0:=f) hc hdst hz hQ _ (fun _=>False) (vd:=[]) (c':=c) (val:=fun _=>undef) (vf:=f) (os:=os) (fs:=fs) ?_ (fun i=>by simpa using (hord.all i).symm) hord.nodup (fun _ _ h=>h) (fun pre i post hp j hj=>.inr (hord.before pre i post hp j hj))
 exact ⟨rfl,fun _ h=>h.elim,fun _ h=>h.elim,hk.defers,hk.size,fun t v ht=>hk.holds t v (by
  rcases ht with ⟨_,_,h,_⟩ | h
  ·exact h.elim
  ·exact h.1),fun t v ht=>.inr ⟨ht,fun j o hj=>by simp at hj⟩,fun k o hk=>by simp at hk,fun _ h=>h.elim,fun _ _ _ h=>h.elim,
  Holds.iff hw' (fun b=>⟨fun h1=>h1.elim (fun h=>h) fun ⟨x,i,o,t,z,g1,_⟩=>g1.elim,.inl⟩) fun b x hb=>hb.elim (fun h=>h) fun ⟨i,o,t,z,g1,_⟩=>g1.elim,k⟩
def cutV (j:Jb) (n:Nat):Jb:=if j.a<j.b∧n<j.b - j.a then ⟨j.f,j.e,j.a,j.a+1+(j.b - j.a)%n,j.m⟩ else j
theorem cutV_64 {j:Jb} (h:j.in64) (n:Nat) (hn:0<n):(cutV j n).in64:=by
 unfold cutV
 split
 ·rename_i hc
  have:=Nat.mod_lt (j.b - j.a) hn
  have hb:=h.b
  exact ⟨h.f,h.e,h.a,by simp only; omega,h.m⟩
 ·exact h
theorem cutV_le (j:Jb) (n:Nat) (hn:0<n):(cutV j n).b≤(cutV j n).a+n:=by
 unfold cutV
 split
 ·have:=Nat.mod_lt (j.b - j.a) hn
  simp only; omega
 ·omega
theorem tCut (v:Value) (j:Jb) (n:Nat) (h:j.in64) (hn:0<n∧n≤100):aY Tryz.prog 6 [v,.int .u64 (n:Nat)] [(v,cO j)] (fun r os fs=>os=[]∧fs=[(r,cO (cutV j n))]):=by
 have ha:=h.a
 have hb:=h.b
 refine mV Tryz.func6 ?_
 refine aQ (aA (d:=cO j) qM) fun p1 hp1=>?_
 refine aI (d:=cO ⟨0,0,0,0,0⟩) fun p2 hp2=>?_
 refine aF 1 rfl hp1 ?_
 refine aB (u:=.int .u64 (j.a:Nat)) (e:=fun _=>cO j) 1 rfl (aC (aC (aJ (aG _)))) ?_
 refine aF 1 rfl hp1 ?_
 refine aB (u:=.int .u64 (j.b:Nat)) (e:=fun _=>cO j) 1 rfl (aC (aC (aC (aJ (aG _))))) ?_
 refine aO (((j.a:Nat):Int)<(j.b:Nat)) rfl (fun hc=>?_) (fun hc=>?_)
 ·refine aF 1 rfl hp1 ?_
  refine aB (u:=.int .u64 (j.b:Nat)) (e:=fun _=>cO j) 1 rfl (aC (aC (aC (aJ (aG _))))) ?_
  refine aF 1 rfl hp1 ?_
  refine aB (u:=.int .u64 (j.a:Nat)) (e:=fun _=>cO j) 1 rfl (aC (aC (aJ (aG _)))) ?_
  refine ar rfl qI ?_
  rw [show ((j.b:Nat):Int) - (j.a:Nat)=((j.b - j.a:Nat):Int) by omega]
  refine aO (((n:Nat):Int)<((j.b - j.a:Nat):Int)) rfl (fun hd=>?_) (fun hd=>?_)
  ·have hm:=Nat.mod_lt (j.b - j.a) hn.1
   rw [show cutV j n=⟨j.f,j.e,j.a,j.a+1+(j.b - j.a)%n,j.m⟩ from if_pos ⟨by omega,by omega⟩]
   refine bC [0,1,2,3,4,5,6,7,8,9,10,11,12] [0,1,2,3,4,5,6,7,8,9,10,11,12] qK qK ?_
   refine aF 1 rfl hp1 ?_
   refine aB (u:=.int .u64 (j.a:Nat)) (e:=fun _=>cO j) 1 rfl (aC (aC (aJ (aG _)))) ?_
   refine ar rfl qI ?_
   refine aF 1 rfl hp1 ?_
   refine aB (u:=.int .u64 (j.b:Nat)) (e:=fun _=>cO j) 1 rfl (aC (aC (aC (aJ (aG _))))) ?_
   refine aF 1 rfl hp1 ?_
   refine aB (u:=.int .u64 (j.a:Nat)) (e:=fun _=>cO j) 1 rfl (aC (aC (aJ (aG _)))) ?_
   refine ar rfl qI ?_
   rw [show ((j.b:Nat):Int) - (j.a:Nat)=((j.b - j.a:Nat):Int) by omega]
   refine sZ qN qN ?_
   rw [show ((j.b - j.a:Nat):Int)%((n:Nat):Int)=(((j.b - j.a)%n:Nat):Int) from (Int.natCast_emod _ _).symm]
   refine ar rfl ⟨by omega,by omega⟩ ?_
   rw [show ((j.a:Nat):Int)+1+(((j.b - j.a)%n:Nat):Int)=((j.a+1+(j.b - j.a)%n:Nat):Int) by omega]
   refine aF 1 rfl hp1 ?_
   refine cP (e:=fun _=>cO j) 1 rfl hp1 (Rep.rk (Rep.rk (Rep.rk (Rep.left (cD (n:=.one (.int .u64 ((j.a+1+(j.b - j.a)%n:Nat):Int))) rfl)) rfl) rfl) rfl) (aP rfl) ?_
   refine aE (d:=cO ⟨j.f,j.e,j.a,j.a+1+(j.b - j.a)%n,j.m⟩) 1 rfl hp1 rfl cZ fun u1=>?_
   refine aH (d:=cO ⟨j.f,j.e,j.a,j.a+1+(j.b - j.a)%n,j.m⟩) 0 rfl hp2 rfl qK (aA qM) ?_
   refine aE (d:=cO ⟨j.f,j.e,j.a,j.a+1+(j.b - j.a)%n,j.m⟩) 0 rfl hp2 rfl cZ fun u2=>?_
   exact fin ⟨rfl,rfl⟩ (dS (dS (aD (fs':=[(u2,cO ⟨j.f,j.e,j.a,j.a+1+(j.b - j.a)%n,j.m⟩)]) qS)))
  ·rw [show cutV j n=j from if_neg qN]
   refine aE (d:=cO j) 1 rfl hp1 rfl cZ fun u1=>?_
   refine aH (d:=cO j) 0 rfl hp2 rfl qK (aA qM) ?_
   refine aE (d:=cO j) 0 rfl hp2 rfl cZ fun u2=>?_
   exact fin ⟨rfl,rfl⟩ (dS (dS (aD (fs':=[(u2,cO j)]) qS)))
 ·rw [show cutV j n=j from if_neg qN]
  refine aE (d:=cO j) 1 rfl hp1 rfl cZ fun u1=>?_
  refine aH (d:=cO j) 0 rfl hp2 rfl qK (aA qM) ?_
  refine aE (d:=cO j) 0 rfl hp2 rfl cZ fun u2=>?_
  exact fin ⟨rfl,rfl⟩ (dS (dS (aD (fs':=[(u2,cO j)]) qS)))
theorem tFound (v:Value) (l:List Ht) (p:Nat) (hl:l.length≤2048) (hin:∃ h∈l,h.b=p):aY Tryz.prog 12 [v,.int .u64 (p:Nat)] [(v,HD l)] (fun r os fs=>os=[]∧fs=[]∧r=.bool true):=by
 refine mV Tryz.func12 ?_
 refine bD (X:=Nat) (fun i=>([(0,v),(1,.int .u64 (p:Nat)),(5,.int .i64 (i:Nat))],[],[(v,HD l)])) (fun i=>i≤l.length∧∀ k,k<i→(l.getD k ht0).b≠p) (fun i=>l.length - i) rfl ?_ ?_
 ·exact bB 0 ⟨Nat.zero_le _,fun k h=>absurd h (Nat.not_lt_zero _)⟩ trivial qF (aD qS)
 rintro i ⟨hi,hno⟩
 simp only at hi hno ⊢
 refine aS (v:=v) (n:=l.length) (size:=14) qM fun _=>?_
 refine aO _ rfl (fun hlt=>?_) (fun hlt=>?_)
 ·have hil:i<l.length:=by omega
  refine aZ (v:=v) (n:=l.length) (size:=14) qM i rfl hil fun a1=>?_
  refine gV (d:=fG (l.getD i ht0)) qM (aJ (aG _)) fun a2=>?_
  refine bF (u:=.int .u64 ((l.getD i ht0).b:Nat)) qM ?_
  refine aO ((((l.getD i ht0).b:Nat):Int)=(p:Nat)) rfl (fun hc=>?_) (fun hc=>?_)
  ·exact fin ⟨rfl,rfl,rfl⟩ (aD (fs':=[]) qS)
  ·refine ar rfl qI ?_
   exact bB (i+1) ⟨qO,fun k hk=>(Nat.lt_or_ge k i).elim (hno k) fun h=>by
    obtain rfl:k=i:=by omega
    exact fun e=>hc (by rw [e])⟩ qO qF (aD qS)
 ·exfalso
  obtain ⟨h,hm,hb⟩:=hin
  obtain ⟨k,hk,e⟩:=List.getElem_of_mem hm
  refine hno k qN ?_
  rw [gE,List.getElem?_eq_getElem hk]
  show l[k].b=p
  rw [e]; exact hb
theorem low_dvd (n:Nat):∀ k,(∀ i,i<k→n/2^i%2=0)→n%2^k=0
 | 0,_=>by simp [Nat.mod_one]
 | k+1,h=>by
  have h1:=low_dvd n k fun i hi=>h i qN
  rw [Nat.mod_pow_succ,h1,h k qN,Nat.mul_zero]
theorem low_shift {m:Int} {k:Nat} (h:Low m k):Low (m/2^k) 0:=by
 have h1:=low_dvd m.natAbs k h.low
 obtain ⟨c,hc⟩:∃ c:Int,m=2^k*c:=by
  have:((2^k:Nat):Int) ∣ m:=Int.ofNat_dvd_left.2 (Nat.dvd_of_mod_eq_zero h1)
  obtain ⟨c,hc⟩:=this
  exact ⟨c,by rw [hc,Int.natCast_pow]; rfl⟩
 have hp:(2:Int)^k≠0:=Int.ne_of_gt (Int.pow_pos qE)
 have h2:m/2^k=c:=by rw [hc,Int.mul_ediv_cancel_left _ hp]
 have h3:m.natAbs/2^k=c.natAbs:=by
  rw [hc,Int.natAbs_mul,Int.natAbs_pow]
  exact Nat.mul_div_cancel_left _ (Nat.pow_pos qE)
 rw [h2]
 refine ⟨?_,fun i hi=>absurd hi (Nat.not_lt_zero _)⟩
 have:=h.one
 rw [h3] at this
 rw [Nat.pow_zero,Nat.div_one]
 exact this
theorem nrD_dn (m e:Int):NrD (dnM m,dnE m e):=by
 by_cases h:m=0
 ·subst h
  exact .inl ⟨by show dnM 0=0; unfold dnM; simp,by show dnE 0 e=0; exact if_pos rfl⟩
 ·exact .inr (low_shift (iL h))
theorem minD_one (f:Nat→Int×Int):∀ n,∃ i,pE f n=f i
 | 0=>⟨0,rfl⟩
 | n+1=>by
  unfold pE
  split
  ·exact ⟨n+1,rfl⟩
  ·exact minD_one f n
theorem nrD_brL (l:List Ht):NrD (brV dyL l):=by
 unfold brV
 split
 ·exact .inl ⟨rfl,rfl⟩
 ·obtain ⟨i,h⟩:=minD_one (fun i=>dyL (l.getD i ht0)) (l.length - 1)
  rw [h]; exact nrD_dn _ _
theorem nrD_brM (l:List Ht):NrD (brV dyM l):=by
 unfold brV
 split
 ·exact .inl ⟨rfl,rfl⟩
 ·obtain ⟨i,h⟩:=minD_one (fun i=>dyM (l.getD i ht0)) (l.length - 1)
  rw [h]; exact nrD_dn _ _
structure LookC (LV:Int→Nat→Int→Lk7):Prop where
 look:mP LV
 ht:∀ (f:Int) (p:Nat) (m:Int),0≤f∧f≤5→4318952042648305664≤p→p<4652218415073722368→1≤m∧m≤128→(LV f p m).h=true→HtOk (LV f p m)∧HtC (LV f p m)
theorem certOk {LV:Int→Nat→Int→Lk7} (h:LookC LV) {j:Jb} (hj:j.ok) (hb:j.b≤j.a+64):qX (kJ LV j):=by
 have hab:=hj.ab
 have hb52:=hj.b
 refine ⟨Nat.le_trans (jK _ _ _ _ _) qN,fun x hx=>?_⟩
 obtain ⟨h1,h2,h3,h4⟩:=hits_in LV j.f j.m (pat j.e j.a) (j.b - j.a) x hx
 have p1:=nG (e:=j.e) (i:=j.a) hj.e qN
 have p2:=nG (e:=j.e) (i:=j.b - 1) hj.e qN
 have p3:pat j.e (j.b - 1)=pat j.e j.a+(j.b - j.a) - 1:=by unfold pat; omega
 have h5:=h.ht j.f x.b j.m hj.f qN qN hj.m (by rw [← h3]; exact h4)
 rw [← h3] at h5
 exact ⟨h5.1,h5.2,by omega⟩
theorem vH {j:Jb} {l:List Ht} (h:qX l):(qB j l).length≤1100+1046*l.length:=by
 have h1:=uY (l:=l) fun x hx=>(h.2 x hx).2.1
 have hd1:DyOk (brV dyL l).1 (brV dyL l).2 60:=sG fun x hx=>dyL_ok (h.2 x hx).1
 have hd2:DyOk (brV dyM l).1 (brV dyM l).2 60:=sG fun x hx=>dyM_ok (h.2 x hx).1
 have h2:=mD hd1.sm
 have h3:=mD hd2.sm
 have h4:=kB j
 simp only [qB,rP,dyB,hdrC,List.length_append,dO,List.length_cons,List.length_nil]
 omega
def jW:Jb:=⟨1,1,0,1,9⟩
structure LookW (LV:Int→Nat→Int→Lk7):Prop extends LookC LV where
 hard:(LV 1 (pat 1 0) 9).h=true
 may : -1022≤(LV 1 (pat 1 0) 9).e∧(LV 1 (pat 1 0) 9).e≤1022
theorem jW_ok:jW.ok:=⟨by decide,by decide,by decide,by decide,by decide⟩
theorem jW_valid {LV:Int→Nat→Int→Lk7} (h:LookW LV):oO LV jW:=⟨jW_ok,decide_eq_true h.may,decide_eq_true h.may⟩
theorem jW_hits {LV:Int→Nat→Int→Lk7} (h:LookW LV):kJ LV jW=[⟨pat 1 0,LV 1 (pat 1 0) 9⟩]:=by
 show []++(if (LV 1 (pat 1 0+0) 9).h=true then _ else _)=_
 rw [Nat.add_zero,if_pos h.hard]; rfl
set_option maxHeartbeats 1600000 in
theorem tWorks {LV:Int→Nat→Int→Lk7} (hL:LookW LV):aY Tryz.prog 5 [] [] (fun r os fs=>os=[]∧fs=[]∧r=.bool true):=by
 have hj:=jW_valid hL
 have hC:qX (kJ LV jW):=certOk hL.toLookC hj.1 qE
 have hHt:=jW_hits hL
 have hlen:=vH (j:=jW) hC
 have hPub:=fun {fs:List bA} {K:cE} r n rm jv rest=>@q8 LV hL.look fs K r n rm jv jW hj rest
 rw [hHt] at hC hlen hPub
 have hlen':(qB jW [⟨pat 1 0,LV 1 (pat 1 0) 9⟩]).length≤2146:=hlen
 have hsec:eC jW+bV (qB jW [⟨pat 1 0,LV 1 (pat 1 0) 9⟩]).length≤20:=by
  show 10+bV _≤20
  unfold bV; omega
 have hCk:=fun u=>cCheck hL.look u jW ⟨pat 1 0,LV 1 (pat 1 0) 9⟩ hj hC (nrD_brL _) (nrD_brM _) qN rfl rfl hL.hard
 have hRd:=fun u=>cRead u jW [⟨pat 1 0,LV 1 (pat 1 0) 9⟩] hj.1 hC (nrD_brL _) (nrD_brM _) qN
 refine mV Tryz.func5 ?_
 refine bN (dNew 20 qE) (aT _ _) (bP _) ?_
 rintro _ _ _ ⟨rfl,r,rm,rfl,rfl⟩
 refine eq_ptr ?_
 refine dE [.one (.int .i64 1),.one (.int .i64 1),.one (.int .u64 0),.one (.int .u64 1),.one (.int .i64 9)] (by exact ⟨⟨aP rfl,rfl⟩,⟨aP rfl,rfl⟩,⟨aP rfl,rfl⟩,⟨aP rfl,rfl⟩,⟨aP rfl,rfl⟩,trivial⟩) fun u1=>?_
 refine hPub r 20 rm u1 [] qE qE hC _ rfl qN hsec qE (.head _) fun x L=>?_
 refine bN (hRd x) (dS (aV 0 _ _)) (aX (.head _) (bP _)) ?_
 rintro _ _ _ ⟨a,b,c,d,rfl,hb,rfl,rfl⟩
 refine aI (d:=cO ⟨0,0,0,0,0⟩) fun p1 hp1=>?_
 refine aI (d:=dyD 0 0) fun p2 hp2=>?_
 refine aI (d:=dyD 0 0) fun p3 hp3=>?_
 refine aH (d:=cO jW) 2 rfl hp1 rfl qK (aA (d:=cO jW) (.head _)) ?_
 refine aH (d:=dyD (brV dyL [⟨pat 1 0,LV 1 (pat 1 0) 9⟩]).1 (brV dyL [⟨pat 1 0,LV 1 (pat 1 0) 9⟩]).2) 1 rfl hp2 rfl qK (aA (.tail _ (.head _))) ?_
 refine aH (d:=dyD (brV dyM [⟨pat 1 0,LV 1 (pat 1 0) 9⟩]).1 (brV dyM [⟨pat 1 0,LV 1 (pat 1 0) 9⟩]).2) 0 rfl hp3 rfl qK (aA (.tail _ (.tail _ (.head _)))) ?_
 refine bG rfl qN ?_
 refine nN (n:=1) 3 rfl hb fun _=>?_
 refine bG rfl qN ?_
 refine bN (hCk x) (aT _ _) (aX (.tail _ (.tail _ (.tail _ (.head _)))) (bP _)) ?_
 rintro _ _ _ ⟨rfl,rfl,rfl⟩
 refine bG rfl qN ?_
 exact fin ⟨rfl,rfl,rfl⟩ (aM (dS (dS (dS (aV 0 _ _)))) (aD (fs':=[]) (fun F hF=>by cases hF)))
theorem and_low {P:Program} {t:TypeId} {x y:Operand} {os:List Own} {fs:List bA} {K:cE} (z m:Int) (k p:Nat) (hp:p=2^k) (hm:m=((p - 1:Nat):Int)) (hk:k≤62)
  (h1:∀ r:Nat,r<p→K (.int .i64 (r:Nat)) os fs):pC P .and t x y (.int .i64 z) (.int .i64 m) os fs K:=by
 subst hm hp
 have hp:2^k≤2^62:=Nat.pow_le_pow_right qE hk
 have h0:0<2^k:=Nat.pow_pos qE
 have hlt:2^k - 1<18446744073709551616:=by omega
 have hb:(BitVec.ofInt 64 z &&& BitVec.ofInt 64 ((2^k - 1:Nat):Int)).toNat=(BitVec.ofInt 64 z).toNat%2^k:=by
  rw [BitVec.toNat_and]
  have e2:(BitVec.ofInt 64 ((2^k - 1:Nat):Int)).toNat=2^k - 1:=by
   generalize 2^k - 1=q at hlt
   rw [BitVec.toNat_ofInt]; omega
  rw [e2,Nat.and_two_pow_sub_one_eq_mod]
 have hr:=Nat.mod_lt (BitVec.ofInt 64 z).toNat h0
 refine ⟨dD _ (fun w=>?_) (h1 _ hr)⟩
 generalize (BitVec.ofInt 64 z).toNat%2^k=R at hb hr
 have hw:IntKind.i64.wrap (R:Int)=(R:Int):=bT ⟨by omega,by omega⟩
 have hd:∀ X Y:BitVec 64,(X &&& Y).toNat=R→IntKind.i64.wrap ((X &&& Y).toNat:Int)=(R:Int):=fun X Y h=>by rw [h,hw]
 simp only [eqGuard,binOp,Op.intBits,Sem.run_bind,Sem.run_pure,Result.andThen_ok,IntKind.bits,ne_eq,not_true,if_false]
 exact congrArg (fun n=>Result.ok (Value.int .i64 n) w) (hd _ _ hb)
structure LookF (LV:Int→Nat→Int→Lk7):Prop extends LookW LV where
 fine:∀ (f:Int) (p:Nat) (m n:Int),0≤f∧f≤5→4318952042648305664≤p→p<4652218415073722368→1≤m→m≤n→n≤128→(LV f p n).h=true→(LV f p m).h=true
def atM (j:Jb) (m:Int):Jb:=⟨j.f,j.e,j.a,j.b,m⟩
theorem hits_fine {LV:Int→Nat→Int→Lk7} (h:LookF LV) {j:Jb} (hj:j.ok) {n:Int} (hn:j.m≤n∧n≤128) {x:Ht} (hx:x∈kJ LV (atM j n)):∃ y∈kJ LV j,y.b=x.b:=by
 have hab:=hj.ab
 have hb52:=hj.b
 obtain ⟨h1,h2,h3,h4⟩:=hits_in LV j.f n (pat j.e j.a) (j.b - j.a) x hx
 have p1:=nG (e:=j.e) (i:=j.a) hj.e qN
 have p2:=nG (e:=j.e) (i:=j.b - 1) hj.e qN
 have p3:pat j.e (j.b - 1)=pat j.e j.a+(j.b - j.a) - 1:=by unfold pat; omega
 have hh:=h.fine j.f x.b j.m n hj.f qN qN hj.m.1 hn.1 hn.2 (by rw [← h3]; exact h4)
 refine ⟨⟨x.b,LV j.f x.b j.m⟩,?_,rfl⟩
 obtain ⟨i,hi⟩:∃ i,x.b=pat j.e j.a+i:=⟨x.b - pat j.e j.a,by omega⟩
 have hin:i<j.b - j.a:=by omega
 rw [hi] at hh ⊢
 have key:∀ n,i<n→(⟨pat j.e j.a+i,LV j.f (pat j.e j.a+i) j.m⟩:Ht)∈iO LV j.f j.m (pat j.e j.a) n:=by
  intro n
  induction n with
  | zero=>intro h; exact absurd h (Nat.not_lt_zero _)
  | succ n ih =>
   intro h
   show _∈iO LV j.f j.m (pat j.e j.a) n++_
   rcases Nat.lt_or_ge i n with h5 | h5
   ·exact List.mem_append_left _ (ih h5)
   ·obtain rfl:i=n:=by omega
    rw [if_pos hh]
    exact List.mem_append_right _ (List.mem_singleton.2 rfl)
 exact key _ hin
open Classical in
set_option maxHeartbeats 3200000 in
theorem tFiner {LV:Int→Nat→Int→Lk7} (hF:LookF LV) (v:Value) (j0:Jb) (z:Int) (h0:j0.in64):aY Tryz.prog 4 [v,.int .i64 z] [(v,cO j0)] (fun r os fs=>os=[]∧fs=[]∧r=.bool true):=by
 have hL:=hF.toLookC
 have h64:=cutV_64 h0 10 qE
 have hle:=cutV_le j0 10 qE
 refine uO Tryz.func4 qK rfl (Nat.le_of_ble_eq_true rfl) ?_
 refine kM (Y:=Value×Value×Int) 5 (fun y=>([(2,y.1),(5,.bool true),(6,y.2.1)],[bL y.2.1 5 1 (fun _=>cO (atM (cutV j0 10) y.2.2)),bL y.1 5 1 (fun _=>cO (cutV j0 10))],[])) (fun y=>g9 y.1∧g9 y.2.1∧(cutV j0 10).m≤y.2.2∧y.2.2<9223372036854775808∧((cutV j0 10).m≤128→y.2.2≤128)) qK ?_ ?_
 ·refine aQ (aA (d:=cO j0) qM) fun p2 hp2=>?_
  refine bN (tWorks hF.toLookW) (aT _ _) (bP _) ?_
  rintro _ _ _ ⟨rfl,rfl,rfl⟩
  refine aE (d:=cO j0) 0 rfl hp2 rfl cZ fun u1=>?_
  refine bN (tCut u1 j0 10 h0 qE) (aT _ _) (aX (.head _) (bP _)) ?_
  rintro u2 _ _ ⟨rfl,rfl⟩
  refine aH (d:=cO (cutV j0 10)) 0 rfl hp2 rfl qK (aA (.head _)) ?_
  generalize cutV j0 10=j at *
  refine aE (d:=cO j) 0 rfl hp2 rfl cZ fun u3=>?_
  refine aI (d:=cO ⟨0,0,0,0,0⟩) fun p6 hp6=>?_
  refine aH (d:=cO j) 0 rfl hp6 rfl qK (aA (.head _)) ?_
  have hm:=h64.m
  refine aF 1 rfl hp2 ?_
  refine aB (u:=.int .i64 j.m) (e:=fun _=>cO j) 1 rfl (aC (aC (aC (aC (aG _))))) ?_
  refine aO (1≤j.m) rfl (fun hc=>?_) (fun hc=>?_)
  ·refine aF 1 rfl hp2 ?_
   refine aB (u:=.int .i64 j.m) (e:=fun _=>cO j) 1 rfl (aC (aC (aC (aC (aG _))))) ?_
   refine aO (j.m≤128) rfl (fun hd=>?_) (fun hd=>?_)
   ·refine aF 1 rfl hp2 ?_
    refine aB (u:=.int .i64 j.m) (e:=fun _=>cO j) 1 rfl (aC (aC (aC (aC (aG _))))) ?_
    refine and_low z 63 6 64 rfl rfl qE fun r hr=>?_
    refine ar rfl ⟨by omega,by omega⟩ ?_
    refine gJ ?_
    refine aF 0 rfl hp6 ?_
    refine cP (e:=fun _=>cO j) 0 rfl hp6 (Rep.rk (Rep.rk (Rep.rk (Rep.rk (cD (n:=.one (.int .i64 (min 128 (j.m+(r:Nat))))) rfl) rfl) rfl) rfl) rfl) (aP rfl) ?_
    exact bB (p2,p6,min 128 (j.m+(r:Nat))) ⟨hp2,hp6,by simp only; omega,by simp only; omega,fun _=>by simp only; omega⟩ trivial qF (aD (fs':=[]) (fun F hF=>by cases hF))
   ·exact bB (p2,p6,j.m) ⟨hp2,hp6,Int.le_refl _,hm.2,fun h=>h⟩ trivial qF (aD (fs':=[]) (fun F hF=>by cases hF))
  ·exact bB (p2,p6,j.m) ⟨hp2,hp6,Int.le_refl _,hm.2,fun h=>h⟩ trivial qF (aD (fs':=[]) (fun F hF=>by cases hF))
 generalize cutV j0 10=j at *
 rintro ⟨p2,p6,n⟩ ⟨hp2,hp6,hn1,hn2,hn3⟩
 simp only at hp2 hp6 hn1 hn2 hn3 ⊢
 have h64n:(atM j n).in64:=⟨h64.f,h64.e,h64.a,h64.b,by have:=h64.m; show _≤n∧n<_; omega⟩
 refine kM (Y:=Unit) 1 (fun _=>([(2,p2),(5,.bool true),(6,p6)],[bL p6 5 1 (fun _=>cO (atM j n)),bL p2 5 1 (fun _=>cO j)],[])) (fun _=>oO LV j∧oO LV (atM j n)) qK ?_ ?_
 ·refine aE (d:=cO j) 1 rfl hp2 rfl cZ fun u1=>?_
  refine bN (jValid hL.look u1 j h64) (aT _ _) (aX (.head _) (bP _)) ?_
  rintro _ _ _ ⟨rfl,rfl,rfl⟩
  refine (Classical.em (oO LV j)).elim (fun hv1=>?_) (fun hv1=>?_)
  ·rw [if_pos hv1]
   refine aL rfl qN ?_
   refine aE (d:=cO (atM j n)) 0 rfl hp6 rfl cZ fun u2=>?_
   refine bN (jValid hL.look u2 (atM j n) h64n) (aT _ _) (aX (.head _) (bP _)) ?_
   rintro _ _ _ ⟨rfl,rfl,rfl⟩
   refine (Classical.em (oO LV (atM j n))).elim (fun hv2=>?_) (fun hv2=>?_)
   ·rw [if_pos hv2]
    refine aL rfl qN ?_
    exact bB () ⟨hv1,hv2⟩ trivial qF (aD (fs':=[]) (fun F hF=>by cases hF))
   ·rw [if_neg hv2]
    refine bG rfl qN ?_
    exact fin ⟨rfl,rfl,rfl⟩ (dS (dS (aD (fs':=[]) (fun F hF=>by cases hF))))
  ·rw [if_neg hv1]
   refine bG rfl qN ?_
   exact fin ⟨rfl,rfl,rfl⟩ (dS (dS (aD (fs':=[]) (fun F hF=>by cases hF))))
 rintro ⟨⟩ ⟨hv1,hv2⟩
 have hC1:=certOk hL hv1.1 qN
 have hC2:=certOk hL (j:=atM j n) hv2.1 (by show j.b≤j.a+64; omega)
 have hl1:(kJ LV j).length≤j.b - j.a:=jK _ _ _ _ _
 have hl2:(kJ LV (atM j n)).length≤j.b - j.a:=jK _ _ _ _ _
 have hb1:=vH (j:=j) hC1
 have hb2:=vH (j:=atM j n) hC2
 have hfine:∀ x∈kJ LV (atM j n),∃ y∈kJ LV j,y.b=x.b:=fun x hx=>hits_fine hF hv1.1 ⟨hn1,hv2.1.m.2⟩ hx
 have ha2:(atM j n).a=j.a:=rfl
 have ha3:(atM j n).b=j.b:=rfl
 refine kM (Y:=Value×Value) 2 (fun y=>([(5,.bool true),(8,y.1),(13,y.2),(11,.int .i64 0),(16,.int .i64 0)],[],[(y.1,HD ((kJ LV j).map htR)),(y.2,HD ((kJ LV (atM j n)).map htR))])) (fun _=>True) qK ?_ ?_
 ·have hj1:=hv1.1.ab
  have hj2:=hv2.1.ab
  refine draw_ex [2] [1,0,2,3,4,5,6,7,8,9,10,11,12,13,14,15,16,17] [0,1,2,3,4,5,10,11,12,13,6,14,7,15,8,16,9,17] qK qK qK ?_
  refine aE (d:=cO j) 1 rfl hp2 rfl cZ fun w1=>?_
  refine bN (dNew 200 qE) (aT _ _) (bP _) ?_
  rintro _ _ _ ⟨rfl,r,rm,rfl,rfl⟩
  refine q8 hL.look r 200 rm w1 j hv1 _ qE (by unfold cA; omega) hC1 _ rfl qN (by unfold eC cA bV; omega) (by unfold eC cA; omega) (by repeat (first | exact .head _ | apply List.Mem.tail)) fun x L=>?_
  refine bN (cRead x j _ (hv1).1 hC1 (nrD_brL _) (nrD_brM _) qN) (dS (aV 0 _ _)) (aX (.head _) (bP _)) ?_
  rintro _ _ _ ⟨a,s1,c,d,rfl,hs1,rfl,rfl⟩
  refine aI (d:=cO ⟨0,0,0,0,0⟩) fun q1 hq1=>?_
  refine aI (d:=dyD 0 0) fun q2 hq2=>?_
  refine aI (d:=dyD 0 0) fun q3 hq3=>?_
  refine aH (d:=cO j) 2 rfl hq1 rfl qK (aA (d:=cO j) (.head _)) ?_
  refine aH (d:=dyD (brV dyL (kJ LV j)).1 (brV dyL (kJ LV j)).2) 1 rfl hq2 rfl qK (aA (.tail _ (.head _))) ?_
  refine aH (d:=dyD (brV dyM (kJ LV j)).1 (brV dyM (kJ LV j)).2) 0 rfl hq3 rfl qK (aA (.tail _ (.tail _ (.head _)))) ?_
  refine draw_ex [2] [1,0,2,3,4,5,6,7,8,9,10,11,12,13,14,15,16,17] [0,1,2,3,4,5,10,11,12,13,6,14,7,15,8,16,9,17] qK qK qK ?_
  refine aE (d:=cO (atM j n)) 4 rfl hp6 rfl cZ fun w2=>?_
  refine bN (dNew 200 qE) (dS (dS (dS (Seals.L (f:=fG) (z:=ht0) (size:=14) 0 rfl hs1)))) (bP _) ?_
  rintro _ _ _ ⟨rfl,r,rm,rfl,rfl⟩
  refine q8 hL.look r 200 rm w2 (atM j n) hv2 _ qE (by unfold cA; omega) hC2 _ rfl qN (by unfold eC cA bV; omega) (by unfold eC cA; omega) (by repeat (first | exact .head _ | apply List.Mem.tail)) fun x L=>?_
  refine bN (cRead x (atM j n) _ (hv2).1 hC2 (nrD_brL _) (nrD_brM _) qN) (dS (aV 0 _ _)) (aX (.head _) (bP _)) ?_
  rintro _ _ _ ⟨a,s2,c,d,rfl,hs2,rfl,rfl⟩
  refine aI (d:=cO ⟨0,0,0,0,0⟩) fun q1 hq1=>?_
  refine aI (d:=dyD 0 0) fun q2 hq2=>?_
  refine aI (d:=dyD 0 0) fun q3 hq3=>?_
  refine aH (d:=cO (atM j n)) 2 rfl hq1 rfl qK (aA (d:=cO (atM j n)) (.head _)) ?_
  refine aH (d:=dyD (brV dyL (kJ LV (atM j n))).1 (brV dyL (kJ LV (atM j n))).2) 1 rfl hq2 rfl qK (aA (.tail _ (.head _))) ?_
  refine aH (d:=dyD (brV dyM (kJ LV (atM j n))).1 (brV dyM (kJ LV (atM j n))).2) 0 rfl hq3 rfl qK (aA (.tail _ (.tail _ (.head _)))) ?_
  exact bB (s1,s2) trivial trivial qF (aM (dS (dS (dS (aM (Seals.L (f:=fG) (z:=ht0) (size:=14) 0 rfl hs2) (dS (aV 0 _ _)))))) (aD (fun F hF=>by
   rcases List.mem_cons.1 hF with rfl | hF
   ·repeat (first | exact .head _ | apply List.Mem.tail)
   rcases List.mem_cons.1 hF with rfl | hF
   ·repeat (first | exact .head _ | apply List.Mem.tail)
   cases hF)))
 rintro ⟨s1,s2⟩ -
 dsimp only
 generalize kJ LV j=A at *
 generalize kJ LV (atM j n)=B at *
 refine SemC.of qK ?_
 refine aL rfl qN ?_
 refine aL rfl qN ?_
 refine bD (X:=Nat) (fun i=>([(8,s1),(13,s2),(17,.int .i64 (i:Nat))],[],[(s1,HD (A.map htR)),(s2,HD (B.map htR))])) (fun i=>i≤(B.map htR).length) (fun i=>(B.map htR).length - i) rfl ?_ ?_
 ·exact bB 0 (Nat.zero_le _) trivial qF (aD (fs':=[(s1,HD (A.map htR)),(s2,HD (B.map htR))]) qS)
 intro i hi
 replace hi:i≤(B.map htR).length:=hi
 refine aS (v:=s2) (n:=(B.map htR).length) (size:=14) qM fun _=>?_
 refine aO _ rfl (fun hlt=>?_) (fun hlt=>?_)
 ·have hil:i<(B.map htR).length:=by omega
  have hiB:i<B.length:=by simpa using hil
  have hb:((B.map htR).getD i ht0).b=(B.getD i ht0).b:=by
   rw [gE,List.getElem?_map,List.getElem?_eq_getElem hiB,gE,List.getElem?_eq_getElem hiB]; rfl
  refine aZ (v:=s2) (n:=(B.map htR).length) (size:=14) qM i rfl hil fun a1=>?_
  refine gV (d:=fG ((B.map htR).getD i ht0)) qM (aJ (aG _)) fun a2=>?_
  refine bF (u:=.int .u64 (((B.map htR).getD i ht0).b:Nat)) qM ?_
  refine bN (tFound s1 (A.map htR) (((B.map htR).getD i ht0).b) (by simp; omega) (by
   obtain ⟨y,hy,hyb⟩:=hfine _ (eZ ht0 hiB)
   exact ⟨htR y,List.mem_map.2 ⟨y,hy,rfl⟩,by rw [hb]; exact hyb⟩)) (aT _ _) (aX (by repeat (first | exact .head _ | apply List.Mem.tail)) (bP _)) ?_
  rintro _ _ _ ⟨rfl,rfl,rfl⟩
  refine ar rfl qI ?_
  exact bB (i+1) hil qO qF (aD (fs':=[(s1,HD (A.map htR)),(s2,HD (B.map htR))]) (fun F hF=>by
   rcases List.mem_cons.1 hF with rfl | hF
   ·repeat (first | exact .head _ | apply List.Mem.tail)
   rcases List.mem_cons.1 hF with rfl | hF
   ·repeat (first | exact .head _ | apply List.Mem.tail)
   cases hF))
 ·exact fin ⟨rfl,rfl,rfl⟩ (aD (fs':=[]) (fun F hF=>by cases hF))
def bc (a:Bool) (b:Bal):Int:=if a then b.hi else b.lo
structure BN (d:Nat) (E:Int) (b b':Bal):Prop where
 q:b'.q=b.q+d
 nr:∀ a c,Nr (2^d) E (bc a b) (bc c b')
theorem BN.mono {d:Nat} {E F:Int} {b b':Bal} (h:BN d E b b') (hE:E≤F):BN d F b b':=⟨h.q,fun a c=>(h.nr a c).mono (by have:=cU d; omega) hE⟩
theorem BN.add {d:Nat} {E F:Int} {b b' c c':Bal} (h:BN d E b b') (g:BN d F c c'):BN d (E+F) (kO b c) (kO b' c') :=
 ⟨h.q,fun x y=>by
  have:=(h.nr x y).add (g.nr x y)
  cases x <;> cases y <;> exact this⟩
theorem BN.sub {d:Nat} {E F:Int} {b b' c c':Bal} (h:BN d E b b') (g:BN d F c c'):BN d (E+F) (iV b c) (iV b' c') :=
 ⟨h.q,fun x y=>by
  have:=(h.nr x y).add (g.nr (!x) (!y)).neg
  cases x <;> cases y <;> exact this⟩
theorem BN.times {d:Nat} {E:Int} {b b':Bal} (h:BN d E b b') (k:Int):BN d (E*k.natAbs) (b8 b k) (b8 b' k):=by
 refine ⟨by rw [fJ,fJ]; exact h.q,fun x y=>?_⟩
 by_cases hk:k<0
 ·have h1:=((h.nr (!x) (!y)).times (k := -k) qN).neg
  rw [show (-k:Int)=k.natAbs by omega,Int.neg_mul_eq_mul_neg,Int.neg_mul_eq_mul_neg,show -(k.natAbs:Int)=k by omega] at h1
  unfold b8
  rw [if_pos hk,if_pos hk]
  cases x <;> cases y <;> exact h1
 ·have h1:=(h.nr x y).times (k:=k) qN
  unfold b8
  rw [if_neg hk,if_neg hk,show (k.natAbs:Int)=k by omega]
  cases x <;> cases y <;> exact h1
def dv2 (a:Bool) (x P:Int):Int:=if a then upz x P else x/P
theorem dv2_nr {A E P x x':Int} (hA:1≤A) (hP:1≤P) (hE:0≤E) (h:Nr A E x x') (a b:Bool):Nr A (E+2) (dv2 a x P) (dv2 b x' P):=by
 have s1:∀ (a:Bool) (x:Int),P*(dv2 a x P - 1)≤x∧x≤P*(dv2 a x P+1):=fun a x=>by
  cases a
  ·have:=sY (D:=P) qN 1 x; rwa [St,Int.mul_one] at this
  ·have:=st_upz (D:=P) qN 1 x; rwa [St,Int.mul_one] at this
 obtain ⟨a1,a2⟩:=s1 a x
 obtain ⟨b1,b2⟩:=s1 b x'
 obtain ⟨h1,h2⟩:=h
 generalize dv2 a x P=z at *
 generalize dv2 b x' P=z' at *
 have c1:=Int.mul_le_mul_of_nonneg_right a1 (show 0≤A by omega)
 have c2:=Int.mul_le_mul_of_nonneg_right a2 (show 0≤A by omega)
 have c3:E*A*1≤E*A*P:=Int.mul_le_mul_of_nonneg_left hP (Int.mul_nonneg hE qN)
 have c4:P*1≤P*A:=Int.mul_le_mul_of_nonneg_left hA qN
 have d1:P*(z' - z*A)≤P*((E+2)*A):=by grind
 have d2:P*(z*A - z')≤P*((E+2)*A):=by grind
 exact ⟨Int.le_of_mul_le_mul_left d1 qN,Int.le_of_mul_le_mul_left d2 qN⟩
theorem far_nn {n:Int} (h:n≤0):far n=0:=by unfold far; omega
theorem jM {b:Bal} {q:Int} (a:Bool) (h:q≤b.q):bc a (c9 b q)=dv2 a (bc a b) (2^far (b.q - q)):=by
 have hg:far (-(b.q - q))=0:=far_nn qN
 cases a
 ·show b.lo*2^far (-(b.q - q))/2^far (b.q - q)=b.lo/_
  rw [hg,Int.pow_zero,Int.mul_one]
 ·show -(-b.hi*2^far (-(b.q - q))/2^far (b.q - q)) = -(-b.hi/_)
  rw [hg,Int.pow_zero,Int.mul_one]
theorem BN.recast {d:Nat} {E:Int} {b b':Bal} (h:BN d E b b') (hE:0≤E) {q q':Int} (hq:q≤b.q) (hq':q'=q+d):BN d (E+2) (c9 b q) (c9 b' q'):=by
 have hb:=h.q
 refine ⟨hq',fun x y=>?_⟩
 rw [jM x hq,jM y qN,show b'.q - q'=b.q - q by omega]
 exact dv2_nr (cU d) (cR _) hE (h.nr x y) x y
theorem ofT_nr {c q:Int} {d:Nat} (hc:1≤c) (hq:0≤q) (hd:q+d≤4000) (i j:Int) (hi:0≤i∧i≤1) (hj:0≤j∧j≤1):Nr (2^d) 2 (ofT c q+i) (ofT c (q+d)+j):=by
 have hA:=cU d
 have hFA:=jB (d:=d) hq hd
 unfold ofT
 rw [hFA,Int.one_mul,Int.one_mul]
 generalize (2:Int)^far q=F at *
 generalize (2:Int)^d=A at *
 have a1:=Int.mul_ediv_add_emod F c
 have a2:=Int.emod_lt_of_pos F (show 0<c by omega)
 have a3:=Int.emod_nonneg F (show c≠0 by omega)
 have b1:=Int.mul_ediv_add_emod (F*A) c
 have b2:=Int.emod_lt_of_pos (F*A) (show 0<c by omega)
 have b3:=Int.emod_nonneg (F*A) (show c≠0 by omega)
 generalize F/c=t at *
 generalize F%c=r at *
 generalize F*A/c=t' at *
 generalize hX:F*A%c=r' at *
 have e1:c*(t*A)<c*(t'+1):=by
  have:=Int.mul_nonneg a3 (show 0≤A by omega)
  have e:F*A=c*(t*A)+r*A:=by rw [← a1]; grind
  rw [Int.mul_add,Int.mul_one]; omega
 have e2:c*t'<c*((t+1)*A):=by
  have:r*A<c*A:=Int.mul_lt_mul_of_pos_right a2 qN
  have e:F*A=c*(t*A)+r*A:=by rw [← a1]; grind
  have e3:c*((t+1)*A)=c*(t*A)+c*A:=by grind
  omega
 have f1:=Int.lt_of_mul_lt_mul_left e1 qN
 have f2:=Int.lt_of_mul_lt_mul_left e2 qN
 have f3:(t+1)*A=t*A+A:=by grind
 have f4:(t+i)*A=t*A+i*A:=by grind
 have f5:0≤i*A:=Int.mul_nonneg hi.1 qN
 have f6:i*A≤1*A:=Int.mul_le_mul_of_nonneg_right hi.2 qN
 exact ⟨by omega,by omega⟩
theorem oR {c q:Int} (hc:1≤c):0≤ofT c q∧c*ofT c q≤2^far q:=by
 unfold ofT
 rw [Int.one_mul]
 have h:=cR q
 exact ⟨Int.ediv_nonneg qN qN,Int.mul_ediv_self_le qN⟩
theorem gP {t c F G:Int} (h0:0≤t) (hc:c*t≤F+c) (hF:1048576≤F) (h:2≤G) (hG:G*1048576≤c*c*1047552) (hc1:1≤c∧c≤239):t*t*G≤F*F:=by
 have h1:0≤c*t:=Int.mul_nonneg qN h0
 have e1:c*t*4096≤4097*F:=by omega
 have e2:(c*t*4096)*(c*t*4096)≤(4097*F)*(4097*F):=Int.mul_le_mul e1 e1 qN qN
 have e3:c*c*(t*t)*16777216≤16785409*(F*F):=by grind
 have hT:=Int.mul_nonneg h0 h0
 have e4:=Int.mul_le_mul_of_nonneg_right hG hT
 have hFF:0≤F*F:=Int.mul_nonneg qN qN
 have e5:G*1048576*(t*t)≤1047552*(c*c*(t*t)):=by grind
 have e6:t*t*G*1048576=G*1048576*(t*t):=by grind
 omega
theorem ofV_nr {S:Int→Int→Nat→P2} {nF:Int→Nat} {c k q:Int} {d:Nat} (hc:1≤c) (hq:0≤q) (hd:q+d≤1100)
  (hS:∀ i j,(0≤i∧i≤1)→(0≤j∧j≤1)→∀ a b,Nr (2^d) 137447342080 (cJ a (S (ofT c q+i) q (nF q))) (cJ b (S (ofT c (q+d)+j) (q+d) (nF (q+d))))) :
  BN d (137447342080*k.natAbs) (ofV S c k q (nF q)) (ofV S c k (q+d) (nF (q+d))):=by
 refine BN.times (b:=⟨_,_,_⟩) (b':=⟨_,_,_⟩) ⟨rfl,fun a b=>?_⟩ k
 have h00:=hS 0 0 qE qE false false
 have h01:=hS 0 1 qE qE false true
 have h10:=hS 1 0 qE qE true false
 have h11:=hS 1 1 qE qE true true
 rw [Int.add_zero] at h00 h01 h10
 rw [Int.add_zero] at h00
 cases a <;> cases b
 ·exact h00
 ·exact h01
 ·exact h10
 ·exact h11
theorem uT {q:Int} {d:Nat} (hq:20≤q) (hd:q+d≤1000):BN d 549755813888 (cW q) (cW (q+d)):=by
 have h16:q+d+16=q+16+d:=by omega
 have key:BN d (137447342080*(2:Int).natAbs) (ofV dZ 3 2 (q+16) (nL (q+16))) (ofV dZ 3 2 (q+d+16) (nL (q+d+16))):=by
  rw [h16]
  refine ofV_nr (nF:=nL) qE qN qN fun i j hi hj a b=>?_
  have t1:=oR (c:=3) (q:=q+16) qE
  have t2:=oR (c:=3) (q:=q+16+d) qE
  have f1:=fM (q:=q+16) qN qN
  have f2:=fM (q:=q+16+d) qN qN
  exact atanh_nr qN qN qN qN (gP (c:=3) qN qN f1 qE qE qE) qN qN (gP (c:=3) qN qN f2 qE qE qE) qE (ofT_nr qE qN qN i j hi hj) a b
 have hqq:(ofV dZ 3 2 (q+16) (nL (q+16))).q=q+16:=by unfold ofV; rw [fJ]
 exact (key.recast (q:=q) qE qN rfl).mono qE
theorem pi_nr {q:Int} {d:Nat} (hq:20≤q) (hd:q+d≤1000):BN d 4398046511104 (piB q) (piB (q+d)):=by
 have h16:q+d+16=q+16+d:=by omega
 have f1:=fM (q:=q+16) qN qN
 have f2:=fM (q:=q+16+d) qN qN
 have key1:BN d (137447342080*(16:Int).natAbs) (ofV fF 5 16 (q+16) (nP (q+16))) (ofV fF 5 16 (q+d+16) (nP (q+d+16))):=by
  rw [h16]
  refine ofV_nr (nF:=nP) qE qN qN fun i j hi hj a b=>?_
  have t1:=oR (c:=5) (q:=q+16) qE
  have t2:=oR (c:=5) (q:=q+16+d) qE
  exact atan_nr qN qN qN qN (gP (c:=5) qN qN f1 qE qE qE) qN qN (gP (c:=5) qN qN f2 qE qE qE) qE (ofT_nr qE qN qN i j hi hj) a b
 have key2:BN d (137447342080*(4:Int).natAbs) (ofV fF 239 4 (q+16) (nP (q+16))) (ofV fF 239 4 (q+d+16) (nP (q+d+16))):=by
  rw [h16]
  refine ofV_nr (nF:=nP) qE qN qN fun i j hi hj a b=>?_
  have t1:=oR (c:=239) (q:=q+16) qE
  have t2:=oR (c:=239) (q:=q+16+d) qE
  exact atan_nr qN qN qN qN (gP (c:=239) qN qN f1 qE qE qE) qN qN (gP (c:=239) qN qN f2 qE qE qE) qE (ofT_nr qE qN qN i j hi hj) a b
 have hqq:(iV (ofV fF 5 16 (q+16) (nP (q+16))) (ofV fF 239 4 (q+16) (nP (q+16)))).q=q+16:=by
  show (ofV fF 5 16 (q+16) (nP (q+16))).q=_
  unfold ofV; rw [fJ]
 exact ((key1.sub key2).recast (q:=q) qE qN rfl).mono qE
theorem ln2_200:(693*2^200≤1000*(cW 200).lo∧1000*(cW 200).hi≤694*2^200):=of_decide_eq_true qK
theorem pi_200:(3141*2^200≤1000*(piB 200).lo∧1000*(piB 200).hi≤3142*2^200):=of_decide_eq_true qK
theorem turn_ord {next next' term:Nat→P2→P2} {f f':P2} {n:Nat} (h0:∀ k,k%2=0→(term k (itN next f k)).1≤(term k (itN next' f' k)).2) (h1:∀ k,k%2=1→(term k (itN next' f' k)).1≤(term k (itN next f k)).2)
  (h2:0≤(term (2*n) (itN next' f' (2*n))).2):(lW next term f n).1≤(lW next' term f' n).2:=by
 have key:∀ m,(smT next term f m).1≤(smT next' term f' m).2:=by
  intro m
  induction m with
  | zero=>exact Int.le_refl _
  | succ m ih =>
   by_cases h:m%2=1
   ·rw [oY h,oY h]
    have:=h1 m h
    show (smT next term f m).1 - _≤(smT next' term f' m).2 - _
    omega
   ·rw [lZ h,lZ h]
    have:=h0 m qN
    show (smT next term f m).1+_≤(smT next' term f' m).2+_
    omega
 have:=key (2*n)
 show (smT next term f (2*n)).1≤(smT next' term f' (2*n)).2+_
 omega
theorem over_le {p o:P2} (h:LeP p o) (k:Nat):LeP (fR k p) (fR k o):=(h.times qE (Int.le_refl _) qN 0:LeP (cC p 1 (2*k+1) 0) (cC o 1 (2*k+1) 0))
theorem sinV_ord {t q:Int} (h0:0≤t) (n:Nat):(oZ t q n).1≤(oZ t q n).2:=by
 have key:∀ k,LeP (itN (rE t q) (t,t) k) (itN (rE t q) (t,t) k):=sC ⟨h0,Int.le_refl _⟩ fun k p o hp=>(hp.times (Int.mul_nonneg h0 h0) (Int.le_refl _) (Int.mul_pos qN qN) _:LeP (cC p (t*t) (2*((k+1:Nat):Int)*(2*((k+1:Nat):Int)+1)) (2*q)) (cC o (t*t) _ (2*q)))
 exact turn_ord (fun k _=>(key k).2) (fun k _=>(key k).2) (Int.le_trans (key _).1 (key _).2)
theorem cosV_ord {t q:Int} (h0:0≤t) (n:Nat):(lS t q n).1≤(lS t q n).2:=by
 have key:∀ k,LeP (itN (gQ t q) (oneP q) k) (itN (gQ t q) (oneP q) k):=sC ⟨Int.mul_nonneg qE (Int.le_of_lt (Int.pow_pos qE)),Int.le_refl _⟩ fun k p o hp=>(hp.times (Int.mul_nonneg h0 h0) (Int.le_refl _) (Int.mul_pos (Int.mul_pos qN qE) qN) _:LeP (cC p (t*t) ((2*((k+1:Nat):Int) - 1)*2*((k+1:Nat):Int)) (2*q)) (cC o (t*t) _ (2*q)))
 exact turn_ord (fun k _=>(key k).2) (fun k _=>(key k).2) (Int.le_trans (key _).1 (key _).2)
theorem atan_chain {t q:Int} (hq:0≤q∧q≤4000) (h0:0≤t) (hF:1048576≤(2:Int)^far q) (h5:5*t≤2^far q):∀ k,(itN (dP (t+1) q) (t+1,t+1) (k+1)).1≤(itN (dP t q) (t,t) (k+1)).2∧(itN (dP t q) (t,t) k).2≤2*t+4:=by
 have hff:=jV hq.1 hq.2
 have hsh:Shr (dP t q) (t*t) (2*q) (fun _=>1) 2 0:=shrA hq qE h0 (by
  have e1:=Int.mul_le_mul h5 h5 qN qN
  have e2:=Int.mul_nonneg h0 h0
  have e3:5*t*(5*t)=25*(t*t):=by grind
  omega)
 have hle:∀ k,(itN (dP t q) (t,t) k).2≤2*t+4:=fun k=>hsh.le h0 k true
 have hnn:∀ k,0≤(itN (dP t q) (t,t) k).2:=fun k=>hsh.toNx.nonneg (f:=(t,t)) (fun b=>by cases b <;> exact h0) k true
 have step:∀ (x y a b:Int),0≤y→y≤2*t+4→a≤y+1→(a≤y∨y≤t)→(2:Int)^far (2*q)*x≤a*((t+1)*(t+1))→y*(t*t)≤(2:Int)^far (2*q)*b→x≤b:=by
  intro x y a b hy0 hy1 ha hb hx hyb
  rw [hff] at hx hyb
  have hT:=Int.mul_nonneg h0 h0
  have hT1:0≤(t+1)*(t+1):=Int.mul_nonneg qN qN
  have e1:=Int.mul_le_mul h5 h5 qN qN
  have e3:5*t*(5*t)=25*(t*t):=by grind
  have e4:(t+1)*(t+1)=t*t+2*t+1:=by grind
  have e5:1048576*(2:Int)^far q≤2^far q*2^far q:=Int.mul_le_mul_of_nonneg_right hF qN
  have lt:(2:Int)^far q*2^far q*x<2^far q*2^far q*(b+1):=by
   rcases hb with hb | hb
   ·have f1:a*((t+1)*(t+1))≤y*((t+1)*(t+1)):=Int.mul_le_mul_of_nonneg_right hb hT1
    have f2:y*(2*t+1)≤(2*t+4)*(2*t+1):=Int.mul_le_mul_of_nonneg_right hy1 qN
    have f3:y*((t+1)*(t+1))=y*(t*t)+y*(2*t+1):=by grind
    have f4:(2*t+4)*(2*t+1)=4*(t*t)+10*t+4:=by grind
    have f5:(2:Int)^far q*2^far q*(b+1)=2^far q*2^far q*b+2^far q*2^far q:=by grind
    omega
   ·have f1:a*((t+1)*(t+1))≤(y+1)*((t+1)*(t+1)):=Int.mul_le_mul_of_nonneg_right ha hT1
    have f2:y*(2*t+1)≤t*(2*t+1):=Int.mul_le_mul_of_nonneg_right hb qN
    have f3:(y+1)*((t+1)*(t+1))=y*(t*t)+y*(2*t+1)+(t*t+2*t+1):=by grind
    have f4:t*(2*t+1)=2*(t*t)+t:=by grind
    have f5:(2:Int)^far q*2^far q*(b+1)=2^far q*2^far q*b+2^far q*2^far q:=by grind
    omega
  have:=Int.lt_of_mul_lt_mul_left lt (Int.mul_nonneg qN qN)
  omega
 have one:∀ (x y D:Int),0<D→D*(x/D)≤x∧y≤D*upz y D:=fun x y D hD=>by
  have a1:=Int.mul_ediv_add_emod x D
  have a2:=Int.emod_nonneg x (Int.ne_of_gt hD)
  have b1:=Int.mul_ediv_add_emod (-y) D
  have b2:=Int.emod_nonneg (-y) (Int.ne_of_gt hD)
  exact ⟨by omega,by unfold upz; rw [Int.mul_neg]; omega⟩
 have hP:0<1*(2:Int)^far (2*q):=by have:=cR (2*q); omega
 have nx:∀ k,(2:Int)^far (2*q)*(itN (dP (t+1) q) (t+1,t+1) (k+1)).1≤(itN (dP (t+1) q) (t+1,t+1) k).1*((t+1)*(t+1))∧(itN (dP t q) (t,t) k).2*(t*t)≤(2:Int)^far (2*q)*(itN (dP t q) (t,t) (k+1)).2:=fun k=>by
  have:=one ((itN (dP (t+1) q) (t+1,t+1) k).1*((t+1)*(t+1))) ((itN (dP t q) (t,t) k).2*(t*t)) (1*2^far (2*q)) hP
  rw [Int.one_mul] at this
  refine ⟨?_,?_⟩
  ·have e:(itN (dP (t+1) q) (t+1,t+1) (k+1)).1=(itN (dP (t+1) q) (t+1,t+1) k).1*((t+1)*(t+1))/(1*2^far (2*q)):=rfl
   rw [e,Int.one_mul]; exact this.1
  ·have e:(itN (dP t q) (t,t) (k+1)).2=upz ((itN (dP t q) (t,t) k).2*(t*t)) (1*2^far (2*q)):=rfl
   rw [e,Int.one_mul]; exact this.2
 intro k
 refine ⟨?_,hle k⟩
 induction k with
 | zero=>exact step _ t (t+1) _ h0 qN qN (.inr (Int.le_refl _)) (nx 0).1 (nx 0).2
 | succ k ih=>exact step _ _ _ _ (hnn (k+1)) (hle (k+1)) qN (.inl ih) (nx (k+1)).1 (nx (k+1)).2
theorem atan_ord {t q:Int} (hq:0≤q∧q≤4000) (h0:0≤t) (hF:1048576≤(2:Int)^far q) (h5:5*t≤2^far q) (n:Nat):(fF t q n).1≤(fF (t+1) q n).2:=by
 have key:∀ k,LeP (itN (dP t q) (t,t) k) (itN (dP (t+1) q) (t+1,t+1) k):=sC ⟨h0,show t≤t+1 by omega⟩ fun k p o hp=>(hp.times (Int.mul_nonneg h0 h0) (Int.mul_le_mul qN qN h0 qN) qE _:LeP (cC p (t*t) 1 (2*q)) (cC o ((t+1)*(t+1)) 1 (2*q)))
 have nn:∀ k b,0≤cJ b (itN (dP (t+1) q) (t+1,t+1) k):=Nx.nonneg (T:=(t+1)*(t+1)) (s:=2*q) (c:=fun _=>1) ⟨fun k p=>rfl,fun k=>by omega,Int.mul_nonneg qN qN⟩ (f:=(t+1,t+1)) fun b=>by cases b <;> (show 0≤t+1; omega)
 refine turn_ord (fun k _=>(over_le (key k) k).2) (fun k hk=>?_) (Int.le_trans (over_le (key _) _).1 (over_le (key _) _).2)
 obtain ⟨j,rfl⟩:∃ j,k=j+1:=⟨k - 1,by omega⟩
 exact (over_le (p:=itN (dP (t+1) q) (t+1,t+1) (j+1)) (o:=itN (dP t q) (t,t) (j+1)) ⟨nn (j+1) false,(atan_chain hq h0 hF h5 j).1⟩ (j+1)).2
theorem sz_pw {x:Int} {n e:Nat} (h:x≤2^n) (h' : -x≤2^n) (hn:n+1≤64*e):sz x e:=by
 unfold sz
 have h1:x.natAbs≤2^n:=by
  have:((2^n:Nat):Int)=(2:Int)^n:=by simp
  omega
 have h2:(18446744073709551616:Nat)^e=2^(64*e):=by
  rw [show (18446744073709551616:Nat)=2^64 by rfl,← Nat.pow_mul]
 rw [h2]
 have h3:(2:Nat)^n<2^(n+1):=Nat.pow_lt_pow_right qE qN
 have h4:(2:Nat)^(n+1)≤2^(64*e):=Nat.pow_le_pow_right qE hn
 omega
theorem at200 {d:Nat} {E x x' lo hi:Int} (h:Nr (2^d) E x x') (hE:1000*E≤2^200) (hl:lo*2^200≤1000*x) (hh:1000*x≤hi*2^200):(lo - 1)*(2^200*2^d)≤1000*x'∧1000*x'≤(hi+1)*(2^200*2^d):=by
 obtain ⟨h1,h2⟩:=h
 have hA:=cU d
 generalize (2:Int)^200=F at *
 have e1:=Int.mul_le_mul_of_nonneg_right hE (show (0:Int)≤2^d by omega)
 have e2:=Int.mul_le_mul_of_nonneg_right hl (show (0:Int)≤2^d by omega)
 have e3:=Int.mul_le_mul_of_nonneg_right hh (show (0:Int)≤2^d by omega)
 generalize (2:Int)^d=A at *
 exact ⟨by grind,by grind⟩
theorem far200 {q:Int} (hq:200≤q) (hq1:q≤1000):∃ d:Nat,q=200+d∧(2:Int)^far q=2^200*2^d:=by
 refine ⟨(q - 200).toNat,by omega,?_⟩
 rw [← Int.pow_add]
 congr 1
 unfold far; omega
structure L2 (L:Bal) (q:Int):Prop where
 qq:L.q=q
 lo:692*2^far q≤1000*L.lo
 hi:1000*L.hi≤695*2^far q
 le:L.lo≤L.hi
 w:L.hi - L.lo≤549755813888
theorem m8 {b:Bal} (h:b.lo≤b.hi) (q:Int):(c9 b q).lo≤(c9 b q).hi:=downV_upV _ h
theorem iM {q:Int} (hq:200≤q) (hq1:q≤900):L2 (cW q) q:=by
 obtain ⟨d,rfl,hF⟩:=far200 hq qN
 have h:=uT (q:=200) (d:=d) qE qN
 have w:=uT (q:=200+d) (d:=0) qN qN
 have hw:=(w.nr false true).1
 have hl:=at200 (h.nr false false) (lo:=693) (hi:=694) qE ln2_200.1 (by
  have h1:=ln2_200.2
  have h2:(cW 200).lo≤(cW 200).hi:=m8 (gC (pR (q:=200+16) (n:=nL (200+16)) qE qE) (dR 2 qE)).le _
  show 1000*(cW 200).lo≤_
  omega)
 have hh:=at200 (h.nr true true) (lo:=693) (hi:=694) qE (by
  have h1:=ln2_200.1
  have h2:(cW 200).lo≤(cW 200).hi:=m8 (gC (pR (q:=200+16) (n:=nL (200+16)) qE qE) (dR 2 qE)).le _
  show _≤1000*(cW 200).hi
  omega) ln2_200.2
 refine ⟨rfl,?_,?_,m8 (gC (pR (q:=200+d+16) (n:=nL (200+d+16)) ⟨by omega,by omega⟩ (by unfold nL; omega)) (dR 2 qE)).le _,?_⟩
 ·rw [hF]; exact hl.1
 ·rw [hF]; exact hh.2
 ·rw [show ((200+d:Int))+((0:Nat):Int)=200+d by omega,Int.pow_zero,Int.mul_one,Int.mul_one] at hw
  exact hw
theorem sumP_le {p:Nat→Int} {M:Int} (h:∀ k, -M≤p k∧p k≤M):∀ n:Nat, -(n*M)≤lX p n∧lX p n≤n*M
 | 0=>by simp [lX]
 | n+1=>by
  have ih:=sumP_le h n
  have hn:=h n
  have e:((n+1:Nat):Int)*M=n*M+M:=by rw [show ((n+1:Nat):Int)=(n:Nat)+1 by omega,Int.add_mul]; omega
  rw [e]
  exact ⟨by show _≤lX p n+p n; omega,by show lX p n+p n≤_; omega⟩
theorem uC {next:Nat→P2→P2} {T s:Int} {c:Nat→Int} {G:Int} {k0:Nat} (h:Shr next T s c G k0) {f:Int} (hf:0≤f) {term:Nat→P2→P2} (ht:vZ term) {n:Nat} (hn:n≤400) (b:Bool) : -(404*(2*f+5))≤cJ b (mS next term (f,f) n)∧cJ b (mS next term (f,f) n)≤404*(2*f+5):=by
 have nn:=h.toNx.nonneg (f:=(f,f)) (fun b=>by cases b <;> exact hf)
 have tb:∀ k b,0≤cJ b (term k (itN next (f,f) k))∧cJ b (term k (itN next (f,f) k))≤2*f+5:=fun k b=>by
  have h1:=f8 ht (nn k) k b
  have h2:=kY ht (nn k) k b
  have h3:=h.le hf k b
  omega
 have hs:=sumP_le (p:=fun k=>cJ b (term k (itN next (f,f) k))) (M:=2*f+5) (fun k=>by have:=tb k b; exact ⟨by omega,by omega⟩) n
 rw [← smN_sum] at hs
 have hM:(n:Int)*(2*f+5)≤400*(2*f+5):=Int.mul_le_mul_of_nonneg_right qN qN
 have hl:=tb n true
 cases b
 ·show -(404*(2*f+5))≤cJ false (smN next term (f,f) n)∧cJ false (smN next term (f,f) n)≤_
  omega
 ·show -(404*(2*f+5))≤cJ true (smN next term (f,f) n)+cJ true (term n (itN next (f,f) n))*2^far 1∧cJ true (smN next term (f,f) n)+cJ true (term n (itN next (f,f) n))*2^far 1≤_
  rw [show (2:Int)^far 1=2 by rfl]
  omega
theorem turn_le {next:Nat→P2→P2} {T s:Int} {c:Nat→Int} {G:Int} {k0:Nat} (h:Shr next T s c G k0) {f:Int} (hf:0≤f) {term:Nat→P2→P2} (ht:vZ term) {n:Nat} (hn:2*n≤400) (b:Bool) : -(404*(2*f+5))≤cJ b (lW next term (f,f) n)∧cJ b (lW next term (f,f) n)≤404*(2*f+5):=by
 have nn:=h.toNx.nonneg (f:=(f,f)) (fun b=>by cases b <;> exact hf)
 have tb:∀ k b,0≤cJ b (term k (itN next (f,f) k))∧cJ b (term k (itN next (f,f) k))≤2*f+5:=fun k b=>by
  have h1:=f8 ht (nn k) k b
  have h2:=kY ht (nn k) k b
  have h3:=h.le hf k b
  omega
 have hs:=sumP_le (p:=trn b next term (f,f)) (M:=2*f+5) (fun k=>by
  have h1:=tb k b
  have h2:=tb k (!b)
  unfold trn
  split <;> omega) (2*n)
 rw [← smT_sum] at hs
 have hM:((2*n:Nat):Int)*(2*f+5)≤400*(2*f+5):=Int.mul_le_mul_of_nonneg_right qN qN
 have hl:=tb (2*n) true
 cases b
 ·show -(404*(2*f+5))≤cJ false (smT next term (f,f) (2*n))∧cJ false (smT next term (f,f) (2*n))≤_
  omega
 ·show -(404*(2*f+5))≤cJ true (smT next term (f,f) (2*n))+cJ true (term (2*n) (itN next (f,f) (2*n)))∧cJ true (smT next term (f,f) (2*n))+cJ true (term (2*n) (itN next (f,f) (2*n)))≤_
  omega
structure Xp (m e:Int):Prop where
 pos:0<m
 lt:m<9007199254740992
 low:Low m 0
 e0 : -116≤e
 e1:e≤9
 lg0 : -64≤lgS m e
 lg1:lgS m e≤9
theorem tE {m:Int} (h:Low m 0):kV m=0:=by
 have h1:=h.one
 rw [Nat.pow_zero,Nat.div_one] at h1
 unfold kV
 cases hn:m.natAbs with
 | zero=>rfl
 | succ n =>
  rw [hn] at h1
  unfold lowF
  rw [if_pos qN]
theorem hJ {m:Int} (h:Low m 0):dnM m=m:=by unfold dnM; rw [tE h,Int.pow_zero,Int.ediv_one]
theorem jC {m:Int} (h:Low m 0) (h0:m≠0) (e:Int):dnE m e=e:=by unfold dnE; rw [if_neg h0,tE h]; omega
theorem Xp.dy {m e:Int} (h:Xp m e):DyOk m e 1:=by
 have h1:=h.pos
 have h2:=h.lt
 have h3:=h.e0
 have h4:=h.e1
 exact ⟨dR m qN,by omega,by omega,fun h0=>by omega⟩
def xq (m e q:Int):Int:=m*2^far (e+q)
theorem nB {m e q:Int} (h0:0≤e+q) (hq:q≤4000) (hq0 : -4000≤q):bZ m e q=⟨xq m e q,xq m e q,q⟩:=by
 have hn:fQ q=q:=by unfold fQ; omega
 have h1:jY m e q=xq m e q:=by
  unfold jY fA xq
  rw [hn,Int.neg_neg,show far (-(e+q))=0 from far_nn qN,Int.pow_zero,Int.ediv_one]
 have h2:rO m e q=xq m e q:=by
  unfold rO upV fA xq
  rw [hn,Int.neg_neg,show far (-(e+q))=0 from far_nn qN,Int.pow_zero,Int.ediv_one,Int.neg_mul,Int.neg_neg]
 unfold bZ
 rw [h1,h2]
theorem xq_add {m e q:Int} {d:Nat} (h0:0≤e+q) (h1:e+q+d≤4000):xq m e (q+d)=xq m e q*2^d:=by
 unfold xq
 rw [show e+(q+d)=e+q+d by omega,jB h0 h1,Int.mul_assoc]
theorem iK (m:Int) (h:0<m):m<2^bH m.natAbs:=by
 have h1:m.natAbs<2^bH m.natAbs:=by
  unfold bH
  split
  ·rename_i h0; omega
  ·exact Nat.lt_log2_self
 have h2:((2^bH m.natAbs:Nat):Int)=(2:Int)^bH m.natAbs:=by simp
 omega
theorem xq_in {m e q:Int} (h:Xp m e) (hq:116≤q∧q≤1200):0<xq m e q∧xq m e q<1024*2^far q:=by
 have he:=h.e0
 have hp:=cR (e+q)
 refine ⟨Int.mul_pos h.pos qN,?_⟩
 have h1:=Int.mul_lt_mul_of_pos_right (iK m h.pos) (show (0:Int)<2^far (e+q) by omega)
 have hl:=h.lg1
 unfold lgS at hl
 rw [← Int.pow_add] at h1
 have h2:(2:Int)^(bH m.natAbs+far (e+q))≤2^(10+far q):=bW (by unfold far; omega)
 have h3:(2:Int)^(10+far q)=1024*2^far q:=by rw [Int.pow_add]; rfl
 rw [h3] at h2
 exact Int.lt_of_lt_of_le h1 h2
structure ExpIn (m e:Int) (L:Bal) (q:Int):Prop where
 k0:0≤mG m e L
 k1:mG m e L≤1480
 lo0:0≤(gY m e L).lo
 lo1:(gY m e L).lo<L.hi
 lh:(gY m e L).lo≤(gY m e L).hi
 hi1:10*(gY m e L).hi≤7*2^far q
 eL:(gY m e L).lo=xq m e q - L.hi*mG m e L
 eH:(gY m e L).hi=xq m e q - L.lo*mG m e L
theorem vA {m e:Int} (h:Xp m e) {L:Bal} {q:Int} (hL:L2 L q) (hq:200≤q∧q≤1000):ExpIn m e L q:=by
 have he:=h.e0
 have hx:=xq_in h (q:=q) ⟨by omega,by omega⟩
 have hP:=nB (m:=m) (e:=e) (q:=q) qN qN qN
 have hF:(2:Int)^200≤2^far q:=bW (by unfold far; omega)
 rw [show (2:Int)^200=1606938044258990275541962092341162602522202993782792835301376 by rfl] at hF
 obtain ⟨l1,l2,l3,l4,l5⟩:=hL
 have hk:mG m e L=xq m e q/L.hi:=by unfold mG; rw [l1,hP]
 have hh:0<L.hi:=by omega
 have k0:0≤mG m e L:=by rw [hk]; exact Int.ediv_nonneg qN qN
 have d1:=Int.mul_ediv_add_emod (xq m e q) L.hi
 have d2:=Int.emod_lt_of_pos (xq m e q) hh
 have d3:=Int.emod_nonneg (xq m e q) (Int.ne_of_gt hh)
 rw [← hk] at d1
 have hR:gY m e L=⟨xq m e q + -(L.hi*mG m e L),xq m e q + -(L.lo*mG m e L),q⟩:=by
  unfold gY
  rw [l1,hP]
  generalize mG m e L=K at *
  unfold b8 iV
  rw [if_neg qN]
 have k1:mG m e L≤1480:=by
  rcases Int.lt_or_le 1480 (mG m e L) with hc | hc
  ·exfalso
   have:L.hi*1481≤L.hi*mG m e L:=Int.mul_le_mul_of_nonneg_left qN qN
   omega
  ·exact hc
 have hw:(L.hi - L.lo)*mG m e L≤549755813888*1480:=Int.mul_le_mul l5 k1 k0 qE
 have hw0:0≤(L.hi - L.lo)*mG m e L:=Int.mul_nonneg qN k0
 have e1:(L.hi - L.lo)*mG m e L=L.hi*mG m e L - L.lo*mG m e L:=Int.sub_mul _ _ _
 refine ⟨k0,k1,?_,?_,?_,?_,?_,?_⟩ <;> rw [hR] <;> (try show _+_≤_) <;> (try simp only) <;> omega
theorem DyOk.mono {m e:Int} {a b:Nat} (h:DyOk m e a) (hab:a≤b):DyOk m e b:=⟨h.sm.mono hab,h.e0,h.e1,h.nz⟩
theorem L2.ok {L:Bal} {q:Int} (h:L2 L q) (hq:200≤q∧q≤1000):L.ok 17:=by
 obtain ⟨l1,l2,l3,l4,l5⟩:=h
 have hF:=cR q
 have h2:(2:Int)^far q≤2^1000:=bW (by unfold far; omega)
 generalize (2:Int)^1000=Y at h2
 have hs:∀ x:Int,0≤x→x≤2^far q→sz x 17:=fun x h0 h1=>sz_pw (n:=far q) h1 qN (by unfold far; omega)
 exact ⟨l4,by omega,by omega,hs _ qN qN,hs _ qN qN⟩
structure Sml (b:Bal) (q:Int):Prop where
 qq:b.q=q
 le:b.lo≤b.hi
 lo : -(4096*2^far q)≤b.lo
 hi:b.hi≤4096*2^far q
theorem Sml.ok {b:Bal} {q:Int} (h:Sml b q) (hq:0≤q∧q≤1000):b.ok 17:=by
 obtain ⟨h1,h2,h3,h4⟩:=h
 have e:4096*(2:Int)^far q=2^(far q+12):=by rw [Int.pow_add,Int.mul_comm]; rfl
 rw [e] at h3 h4
 have hn:far q+12+1≤64*17:=by unfold far; omega
 exact ⟨h2,by omega,by omega,sz_pw (n:=far q+12) qN qN hn,sz_pw (n:=far q+12) qN qN hn⟩
theorem Sml.recast {b:Bal} {q:Int} (h:Sml b (q+40)) (hq:0≤q∧q≤900):Sml (c9 b q) q:=by
 obtain ⟨h1,h2,h3,h4⟩:=h
 have hP:(2:Int)^far (q+40)=2^far q*1099511627776:=by rw [show (q+40:Int)=q+(40:Nat) by omega,jB hq.1 qN]; rfl
 have e0:=jM (b:=b) (q:=q) false qN
 have e1:=jM (b:=b) (q:=q) true qN
 have e2:(2:Int)^far (b.q - q)=1099511627776:=by rw [h1,show q+40 - q=40 by omega]; rfl
 rw [e2] at e0 e1
 have e0':(c9 b q).lo=b.lo/1099511627776:=e0
 have e1':(c9 b q).hi = -(-b.hi/1099511627776):=e1
 rw [hP] at h3 h4
 refine ⟨rfl,m8 h2 q,?_,?_⟩
 ·rw [e0']; omega
 ·rw [e1']; omega
theorem exp_sml {m e:Int} (h:Xp m e) {L:Bal} {q:Int} (hL:L2 L q) (hq:200≤q∧q≤1000):Sml (gW (gY m e L)) q:=by
 have hI:=vA h hL hq
 have hq1:(gY m e L).q=q:=by
  unfold gY iV
  rw [hL.qq]; rfl
 have hF:(2:Int)^200≤2^far q:=bW (by unfold far; omega)
 rw [show (2:Int)^200=1606938044258990275541962092341162602522202993782792835301376 by rfl] at hF
 obtain ⟨i1,i2,i3,i4,i5,i6,i7,i8⟩:=hI
 have b1:=uC (shrE (q:=q) i3 qN) (f:=1*2^far q) qN (term:=fC) (.inl rfl) (n:=nE q) (by unfold nE; omega) false
 have b2:=uC (shrE (t:=(gY m e L).hi) (q:=q) qN qN) (f:=1*2^far q) qN (term:=fC) (.inl rfl) (n:=nE q) (by unfold nE; omega) true
 have b1' : -(404*(2*(1*2^far q)+5))≤(rL (gY m e L).lo q (nE q)).1:=b1.1
 have b2':(rL (gY m e L).hi q (nE q)).2≤404*(2*(1*2^far q)+5):=b2.2
 unfold gW
 rw [hq1]
 exact ⟨rfl,(expV_le i3 i5 q (nE q)).2,by simp only; omega,by simp only; omega⟩
def expA (m e q:Int):Bal:=c9 (gW (gY m e (cW (q+40)))) q
theorem at_exp {m e q:Int} (h:Xp m e) (hq:160≤q∧q≤800) (v:Value):aY Tryz.prog 57 [.int .i64 0,v,.int .i64 q] [(v,dyD m e)] (fun r os fs=>os=[]∧∃ x,r=.tuple #[x,.int .i64 (mG m e (cW (q+40))),.int .i64 0]∧fs=[(x,aN (expA m e q).lo (expA m e q).hi (expA m e q).q)]):=by
 have hL:=iM (q:=q+40) qN qN
 have hI:=vA h hL ⟨by omega,by omega⟩
 have hm:=h.pos
 have he:=h.e0
 have hd:=h.dy
 have hP:=nB (m:=m) (e:=e) (q:=q+40) qN qN qN
 have hx:=xq_in h (q:=q+40) ⟨by omega,by omega⟩
 have hsm:=(exp_sml h hL ⟨by omega,by omega⟩).ok ⟨by omega,by omega⟩
 obtain ⟨i1,i2,i3,i4,i5,i6,i7,i8⟩:=hI
 have hF:=cR (q+40)
 have hlo:=hL.lo
 refine eAt v 0 m e q _ _ _ _ _ 1 hd qE ⟨by omega,hq.2⟩ eNamed0 (eMeth0 _) (fun u=>?_) (fun u z=>?_) (hsm.mono qE)
 ·rw [hJ h.low,jC h.low qN]
  exact eMay0 u m e q 1 hd qE ⟨by omega,hq.2⟩ qN qN h.lg1
 ·rw [hJ h.low,jC h.low qN]
  exact eExpAt u z m e _ 17 (hd.mono qE) (hL.ok ⟨by omega,by omega⟩) qE (by rw [hL.qq]; omega) qN (by rw [hL.qq,hP]; show 0≤xq m e (q+40); omega) qN i3 (by
   rw [hL.qq,show (2:Int)^far 1=2 by rfl]; omega)
theorem dvd_low {k:Int} (h:k≠0):dnM k*2^kV k=k:=by
 have h1:=low_dvd k.natAbs (kV k) (iL h).low
 have h2:((2^kV k:Nat):Int) ∣ k:=Int.ofNat_dvd_left.2 (Nat.dvd_of_mod_eq_zero h1)
 rw [Int.natCast_pow] at h2
 exact Int.ediv_mul_cancel h2
theorem lowP_lt {k:Int} (h:k≠0) (h0:0≤k) (h1:k<9007199254740992):kV k<53:=by
 have h2:=lowP_pow h
 rcases Nat.lt_or_ge (kV k) 53 with h3 | h3
 ·exact h3
 ·have h4:(2:Nat)^53≤2^kV k:=Nat.pow_le_pow_right qE h3
  rw [show (2:Nat)^53=9007199254740992 by rfl] at h4
  omega
theorem odd_dn {k:Int} (h0:0<k) (h:k%2=1):dnM k=k∧∀ e,dnE k e=e:=by
 have hl:Low k 0:=⟨by rw [Nat.pow_zero,Nat.div_one]; omega,fun i hi=>absurd hi (Nat.not_lt_zero _)⟩
 exact ⟨hJ hl,fun e=>jC hl qN e⟩
theorem e2_neg {m e:Int} (h:Xp m e) (he:e<0):e2F m e=m/2^far (-e)∧e2S m e=m%2^far (-e)∧e2M m e=m%2^far (-e)∧e2E m e=e∧0<m%2^far (-e):=by
 have hm:=h.pos
 have ho:=h.low
 have he0:=h.e0
 have hlt:=h.lt
 have hn:fQ 0=0:=by decide
 have hF:e2F m e=m/2^far (-e):=by
  unfold e2F jY fA
  rw [hn,Int.add_zero,Int.neg_neg,show far e=0 from far_nn qN,Int.pow_zero,Int.mul_one]
 have hP:=cR (-e)
 have d1:=Int.mul_ediv_add_emod m (2^far (-e))
 have d3:=Int.emod_nonneg m (show (2:Int)^far (-e)≠0 by omega)
 have hE0:0≤dnE (m/2^far (-e)) 0:=by unfold dnE; split <;> omega
 have hl:oE e (dnE (m/2^far (-e)) 0)=e:=by unfold oE; omega
 have hl2:oE (dnE (m/2^far (-e)) 0) e=e:=by unfold oE; omega
 have hS:e2S m e=m%2^far (-e):=by
  unfold e2S jI
  rw [hF,hl,hl2,show far (e - e)=0 from far_nn qN,Int.pow_zero,Int.mul_one]
  generalize hK:m/2^far (-e)=K at *
  by_cases h0:K=0
  ·subst h0
   rw [show dnM 0=0 by unfold dnM; simp]
   omega
  ·have e1:dnE K 0=(kV K:Nat):=by unfold dnE; rw [if_neg h0]; omega
   have hK0:K≤m:=by rw [← hK]; exact Int.ediv_le_self _ qN
   have hk0:0≤K:=by rw [← hK]; exact Int.ediv_nonneg qN qN
   have hb:=lowP_lt h0 hk0 qN
   rw [e1,show far ((kV K:Int) - e)=kV K+far (-e) by unfold far; omega,Int.pow_add,← Int.mul_assoc,dvd_low h0,Int.mul_comm]
   omega
 have hodd:m%2^far (-e)%2=1:=by
  have h1:=ho.one
  rw [Nat.pow_zero,Nat.div_one] at h1
  have h2:(2:Int) ∣ 2^far (-e):=by
   obtain ⟨n,hn⟩:∃ n,far (-e)=n+1:=⟨far (-e) - 1,by unfold far; omega⟩
   rw [hn,Int.pow_succ]
   exact Int.dvd_mul_left _ _
  rw [Int.emod_emod_of_dvd m h2]
  omega
 have hpos:0<m%2^far (-e):=by
  rcases Int.lt_or_eq_of_le d3 with h1 | h1
  ·exact h1
  ·rw [← h1] at hodd; exact absurd hodd qE
 have ho2:=odd_dn hpos hodd
 have hM:e2M m e=m%2^far (-e):=by
  unfold e2M
  rw [hS]; exact ho2.1
 have hE:e2E m e=e:=by
  unfold e2E
  rw [hS,hF,hl,ho2.2]
 exact ⟨hF,hS,hM,hE,hpos⟩
theorem e2_pos {m e:Int} (h:Xp m e) (he:0≤e):e2F m e=m*2^far e∧e2S m e=0∧e2M m e=0∧e2E m e=0:=by
 have hm:=h.pos
 have ho:=h.low
 have he1:=h.e1
 have hlt:=h.lt
 have hn:fQ 0=0:=by decide
 have hF:e2F m e=m*2^far e:=by
  unfold e2F jY fA
  rw [hn,Int.add_zero,Int.neg_neg,show far (-e)=0 from far_nn qN,Int.pow_zero,Int.ediv_one]
 have hl:Low (m*2^far e) (far e):=by
  have hab:(m*2^far e).natAbs=m.natAbs*2^far e:=by rw [Int.natAbs_mul,Int.natAbs_pow]; rfl
  have h1:=ho.one
  rw [Nat.pow_zero,Nat.div_one] at h1
  refine ⟨?_,fun i hi=>?_⟩
  ·rw [hab,Nat.mul_div_cancel _ (Nat.pow_pos qE)]; exact h1
  ·rw [hab]
   obtain ⟨j,hj⟩:∃ j,far e=i+(j+1):=⟨far e - i - 1,by omega⟩
   rw [hj,Nat.pow_add,← Nat.mul_assoc,Nat.mul_right_comm,Nat.mul_div_cancel _ (Nat.pow_pos qE),Nat.pow_succ,← Nat.mul_assoc,Nat.mul_mod_left]
 have hne:m*2^far e≠0:=Int.ne_of_gt (Int.mul_pos hm (Int.pow_pos qE))
 have hlow:kV (m*2^far e)=far e:=by
  have h2:=iL hne
  rcases Nat.lt_trichotomy (kV (m*2^far e)) (far e) with h3 | h3 | h3
  ·have:=hl.low _ h3
   have:=h2.one
   omega
  ·exact h3
  ·have:=h2.low _ h3
   have:=hl.one
   omega
 have hM:dnM (m*2^far e)=m:=by
  unfold dnM
  rw [hlow]
  exact Int.mul_ediv_cancel _ (Int.ne_of_gt (Int.pow_pos qE))
 have hE:dnE (m*2^far e) 0=e:=by
  unfold dnE
  rw [if_neg hne,hlow]
  unfold far; omega
 have hS:e2S m e=0:=by
  unfold e2S
  rw [hF,hM,hE]
  omega
 refine ⟨hF,hS,?_,?_⟩
 ·unfold e2M; rw [hS]; unfold dnM; simp
 ·unfold e2E; rw [hS]; exact if_pos rfl
def frq (m e q:Int):Int:=xq m e q - e2F m e*2^far q
theorem exp2_in {m e q:Int} (h:Xp m e) (hq:116≤q∧q≤1000):0≤frq m e q∧frq m e q<2^far q∧bZ (e2M m e) (e2E m e) q=⟨frq m e q,frq m e q,q⟩∧0≤e2F m e∧e2F m e<1024:=by
 have he0:=h.e0
 have he1:=h.e1
 have hF:=cR q
 have hx:=xq_in h (q:=q) ⟨by omega,by omega⟩
 have fin:0≤frq m e q→0≤e2F m e→e2F m e<1024:=fun h1 h2=>by
  rcases Int.lt_or_le (e2F m e) 1024 with h3 | h3
  ·exact h3
  ·exfalso
   have:1024*(2:Int)^far q≤e2F m e*2^far q:=Int.mul_le_mul_of_nonneg_right h3 qN
   unfold frq at h1
   omega
 by_cases he:e<0
 ·obtain ⟨a1,a2,a3,a4,a5⟩:=e2_neg h he
  have hP:=cR (-e)
  have d1:=Int.mul_ediv_add_emod m (2^far (-e))
  have d2:=Int.emod_lt_of_pos m (show (0:Int)<2^far (-e) by omega)
  have hsp:(2:Int)^far q=2^far (-e)*2^far (e+q):=by
   rw [← Int.pow_add]; congr 1; unfold far; omega
  have hE:=cR (e+q)
  have hf:frq m e q=m%2^far (-e)*2^far (e+q):=by
   unfold frq xq
   rw [a1,hsp]
   generalize (2:Int)^far (e+q)=Y at *
   generalize (2:Int)^far (-e)=P at *
   have:m*Y=(P*(m/P)+m%P)*Y:=by rw [d1]
   rw [this]
   grind
  have k0:0≤e2F m e:=by rw [a1]; exact Int.ediv_nonneg (by have:=h.pos; omega) qN
  have f0:0≤frq m e q:=by rw [hf]; exact Int.mul_nonneg qN qN
  refine ⟨f0,?_,?_,k0,fin f0 k0⟩
  ·rw [hf,hsp]
   exact Int.mul_lt_mul_of_pos_right d2 qN
  ·rw [a3,a4,nB qN qN qN,hf]; rfl
 ·obtain ⟨a1,a2,a3,a4⟩:=e2_pos h qN
  have hf:frq m e q=0:=by
   unfold frq xq
   rw [a1,show far (e+q)=far e+far q by unfold far; omega,Int.pow_add,Int.mul_assoc]
   omega
  have k0:0≤e2F m e:=by rw [a1]; exact Int.mul_nonneg (by have:=h.pos; omega) (Int.le_of_lt (Int.pow_pos qE))
  refine ⟨by omega,by omega,?_,k0,fin qN k0⟩
  rw [a3,a4,nB qN qN qN,hf]
  unfold xq
  rw [Int.zero_mul]
theorem mulB_nn {y q:Int} {L:Bal} (hy:0≤y) (hL:L.lo≤L.hi) (hq:0≤q):oM ⟨y,y,q⟩ L=⟨y*L.lo/2^far q,upz (y*L.hi) (2^far q),q⟩:=by
 have h1:y*L.lo≤y*L.hi:=Int.mul_le_mul_of_nonneg_left hL hy
 have hmin:iZ (cor (· * ·) ⟨y,y,q⟩ L) 3=y*L.lo:=by
  have e0:cor (· * ·) ⟨y,y,q⟩ L 0=y*L.lo:=rfl
  have e1:cor (· * ·) ⟨y,y,q⟩ L 1=y*L.hi:=rfl
  have e2:cor (· * ·) ⟨y,y,q⟩ L 2=y*L.lo:=rfl
  have e3:cor (· * ·) ⟨y,y,q⟩ L 3=y*L.hi:=rfl
  simp only [iZ,e0,e1,e2,e3]
  repeat' split
  all_goals omega
 have hmax:jA (cor (· * ·) ⟨y,y,q⟩ L) 3=y*L.hi:=by
  have e0:cor (· * ·) ⟨y,y,q⟩ L 0=y*L.lo:=rfl
  have e1:cor (· * ·) ⟨y,y,q⟩ L 1=y*L.hi:=rfl
  have e2:cor (· * ·) ⟨y,y,q⟩ L 2=y*L.lo:=rfl
  have e3:cor (· * ·) ⟨y,y,q⟩ L 3=y*L.hi:=rfl
  simp only [jA,e0,e1,e2,e3]
  repeat' split
  all_goals omega
 unfold oM
 rw [hmin,hmax]
 show (⟨fA (y*L.lo) q,upV (y*L.hi) q,q⟩:Bal)=_
 rw [mH hq]
 unfold upV
 rw [mH hq]
 rfl
structure Exp2In (m e:Int) (L:Bal) (q:Int):Prop where
 qq:(e2R m e L).q=q
 lo0:0≤(e2R m e L).lo
 lh:(e2R m e L).lo≤(e2R m e L).hi
 hi1:10*(e2R m e L).hi≤7*2^far q
 eL:(e2R m e L).lo=frq m e q*L.lo/2^far q
 eH:(e2R m e L).hi=upz (frq m e q*L.hi) (2^far q)
theorem exp2_r {m e:Int} (h:Xp m e) {L:Bal} {q:Int} (hL:L2 L q) (hq:200≤q∧q≤1000):Exp2In m e L q:=by
 obtain ⟨a1,a2,a3,a4,a5⟩:=exp2_in h (q:=q) ⟨by omega,by omega⟩
 have hF:=cR q
 have hR:e2R m e L=⟨frq m e q*L.lo/2^far q,upz (frq m e q*L.hi) (2^far q),q⟩:=by
  unfold e2R
  rw [hL.qq,a3]
  exact mulB_nn a1 hL.le qN
 have l1:=hL.lo
 have l2:=hL.hi
 have l3:=hL.le
 have hm:frq m e q*L.lo≤frq m e q*L.hi:=Int.mul_le_mul_of_nonneg_left l3 a1
 refine ⟨by rw [hR],?_,?_,?_,by rw [hR],by rw [hR]⟩
 ·rw [hR]; exact Int.ediv_nonneg (Int.mul_nonneg a1 qN) qN
 ·rw [hR]; exact pY qN hm
 ·rw [hR]
  show 10*upz (frq m e q*L.hi) (2^far q)≤_
  have h1:frq m e q*L.hi≤L.hi*2^far q:=by
   rw [Int.mul_comm]; exact Int.mul_le_mul_of_nonneg_left qN qN
  have h2:upz (frq m e q*L.hi) (2^far q)≤L.hi:=by
   unfold upz
   have : -L.hi ≤ -(frq m e q*L.hi)/2^far q:=Int.le_ediv_of_mul_le qN (by rw [Int.neg_mul]; omega)
   omega
  omega
theorem expB_sml {R:Bal} {q:Int} (h1:R.q=q) (h2:0≤R.lo) (h3:R.lo≤R.hi) (h4:R.hi≤2^far q) (hq:200≤q∧q≤1000):Sml (gW R) q:=by
 have hF:(2:Int)^200≤2^far q:=bW (by unfold far; omega)
 rw [show (2:Int)^200=1606938044258990275541962092341162602522202993782792835301376 by rfl] at hF
 have b1:=uC (shrE (q:=q) h2 qN) (f:=1*2^far q) qN (term:=fC) (.inl rfl) (n:=nE q) (by unfold nE; omega) false
 have b2:=uC (shrE (t:=R.hi) (q:=q) qN qN) (f:=1*2^far q) qN (term:=fC) (.inl rfl) (n:=nE q) (by unfold nE; omega) true
 have b1' : -(404*(2*(1*2^far q)+5))≤(rL R.lo q (nE q)).1:=b1.1
 have b2':(rL R.hi q (nE q)).2≤404*(2*(1*2^far q)+5):=b2.2
 unfold gW
 rw [h1]
 exact ⟨rfl,(expV_le h2 h3 q (nE q)).2,by simp only; omega,by simp only; omega⟩
theorem dn_small {k:Int} (h0:0≤k) (h1:k<1024):DyOk (dnM k) (dnE k 0) 17:=by
 by_cases h:k=0
 ·subst h
  rw [show dnM 0=0 by unfold dnM; simp,show dnE 0 0=0 from if_pos rfl]
  exact ⟨iG _,by decide,by decide,fun _=>rfl⟩
 ·have h2:=lowP_lt h h0 qN
  have h3:dnE k 0=(kV k:Nat):=by unfold dnE; rw [if_neg h]; omega
  have h4:=dvd_low h
  refine ⟨(m6 ((dR k qN).mono qE)),by omega,by omega,fun h5=>?_⟩
  rw [h5,Int.zero_mul] at h4
  exact absurd h4.symm h
def exp2A (m e q:Int):Bal:=c9 (gW (e2R m e (cW (q+40)))) q
theorem exp2_sml {m e:Int} (h:Xp m e) {L:Bal} {q:Int} (hL:L2 L q) (hq:200≤q∧q≤1000):Sml (gW (e2R m e L)) q:=by
 obtain ⟨i1,i2,i3,i4,i5,i6⟩:=exp2_r h hL hq
 have hF:=cR q
 exact expB_sml i1 i2 i3 qN hq
theorem at_exp2 {m e q:Int} (h:Xp m e) (hq:160≤q∧q≤800) (v:Value):aY Tryz.prog 57 [.int .i64 1,v,.int .i64 q] [(v,dyD m e)] (fun r os fs=>os=[]∧∃ x,r=.tuple #[x,.int .i64 (e2F m e),.int .i64 0]∧fs=[(x,aN (exp2A m e q).lo (exp2A m e q).hi (exp2A m e q).q)]):=by
 have hL:=iM (q:=q+40) qN qN
 have hm:=h.pos
 have hlt:=h.lt
 have he:=h.e0
 have he1:=h.e1
 have hd:=h.dy
 have hsm:=(exp2_sml h hL ⟨by omega,by omega⟩).ok ⟨by omega,by omega⟩
 obtain ⟨i1,i2,i3,i4,i5,i6⟩:=exp2_r h hL ⟨by omega,by omega⟩
 obtain ⟨a1,a2,a3,a4,a5⟩:=exp2_in h (q:=q+40) ⟨by omega,by omega⟩
 have hF:=cR (q+40)
 have hF2:(2:Int)^far (q+40)≤2^840:=bW (by unfold far; omega)
 have hrest:sz (e2S m e) 17∧DyOk (e2M m e) (e2E m e) 17:=by
  by_cases hn:e<0
  ·obtain ⟨b1,b2,b3,b4,b5⟩:=e2_neg h hn
   have b6:m%2^far (-e)≤m:=by
    have c1:=Int.mul_ediv_add_emod m (2^far (-e))
    have c2:=Int.mul_nonneg (Int.le_of_lt (cR (-e))) (Int.ediv_nonneg (show 0≤m by omega) (Int.le_of_lt (cR (-e))))
    omega
   have b7:sz (m%2^far (-e)) 17:=(dR _ qN).mono qE
   rw [b2,b3,b4]
   exact ⟨b7,b7,by omega,by omega,fun h0=>by omega⟩
  ·obtain ⟨b1,b2,b3,b4⟩:=e2_pos h qN
   rw [b2,b3,b4]
   exact ⟨iG _,iG _,by decide,by decide,fun _=>rfl⟩
 have hRok:(e2R m e (cW (q+40))).ok 17:=by
  have hs:∀ x:Int,0≤x→x≤2^far (q+40)→sz x 17:=fun x h0 h1=>sz_pw (n:=far (q+40)) h1 qN (by unfold far; omega)
  exact ⟨i3,by rw [i1]; omega,by rw [i1]; omega,hs _ i2 qN,hs _ qN qN⟩
 refine eAt v 1 m e q _ _ _ _ _ 1 hd qE ⟨by omega,hq.2⟩ eNamed1 (eMeth1 _) (fun u=>?_) (fun u z=>?_) (hsm.mono qE)
 ·rw [hJ h.low,jC h.low qN]
  exact eMay1 u m e q 1 hd qE ⟨by omega,hq.2⟩ qN qN h.lg1
 ·rw [hJ h.low,jC h.low qN]
  exact eExp2At u z m e _ 17 (hd.mono qE) (hL.ok ⟨by omega,by omega⟩) qE (by rw [hL.qq]; omega) ⟨a4,by omega⟩ (dn_small a4 a5) hrest.1 hrest.2 (hRok.mono qE) i2 (by
   rw [hL.qq,show (2:Int)^far 1=2 by rfl]; omega)
theorem minF_mem (f:Nat→Int):∀ k,∃ i,i≤k∧iZ f k=f i
 | 0=>⟨0,Nat.le_refl _,rfl⟩
 | k+1=>by
  rw [iZ]
  split
  ·exact ⟨k+1,Nat.le_refl _,rfl⟩
  ·obtain ⟨i,h1,h2⟩:=minF_mem f k
   exact ⟨i,by omega,h2⟩
theorem maxF_mem (f:Nat→Int):∀ k,∃ i,i≤k∧jA f k=f i
 | 0=>⟨0,Nat.le_refl _,rfl⟩
 | k+1=>by
  rw [jA]
  split
  ·exact ⟨k+1,Nat.le_refl _,rfl⟩
  ·obtain ⟨i,h1,h2⟩:=maxF_mem f k
   exact ⟨i,by omega,h2⟩
theorem minF_le (f:Nat→Int):∀ k,iZ f k≤f 0
 | 0=>Int.le_refl _
 | k+1=>by
  have:=minF_le f k
  rw [iZ]
  split <;> omega
theorem le_maxF (f:Nat→Int):∀ k,f 0≤jA f k
 | 0=>Int.le_refl _
 | k+1=>by
  have:=le_maxF f k
  rw [jA]
  split <;> omega
theorem cor_mem (g:Int→Int→Int) (b c:Bal) {i:Nat} (hi:i≤3):∃ x y,cor g b c i=g (bc x b) (bc y c):=by
 have:i=0∨i=1∨i=2∨i=3:=by omega
 rcases this with rfl | rfl | rfl | rfl
 ·exact ⟨false,false,rfl⟩
 ·exact ⟨false,true,rfl⟩
 ·exact ⟨true,false,rfl⟩
 ·exact ⟨true,true,rfl⟩
theorem minC (g:Int→Int→Int) (b c:Bal):∃ x y,iZ (cor g b c) 3=g (bc x b) (bc y c):=by
 obtain ⟨i,h1,h2⟩:=minF_mem (cor g b c) 3
 obtain ⟨x,y,h3⟩:=cor_mem g b c h1
 exact ⟨x,y,by rw [h2,h3]⟩
theorem maxC (g:Int→Int→Int) (b c:Bal):∃ x y,jA (cor g b c) 3=g (bc x b) (bc y c):=by
 obtain ⟨i,h1,h2⟩:=maxF_mem (cor g b c) 3
 obtain ⟨x,y,h3⟩:=cor_mem g b c h1
 exact ⟨x,y,by rw [h2,h3]⟩
theorem dvL_eq (q x y:Int):dvL q x y=x*2^far q/y:=by unfold dvL upz; rw [Int.neg_neg,Int.neg_neg]
theorem bc_div (a:Bool) (b c:Bal):∃ x y,bc a (iT b c)=dv2 a (bc x b*2^far b.q) (bc y c):=by
 cases a
 ·obtain ⟨x,y,h⟩:=minC (dvL b.q) b c
  exact ⟨x,y,by show iZ _ 3=_; rw [h,dvL_eq]; rfl⟩
 ·obtain ⟨x,y,h⟩:=maxC (dvU b.q) b c
  exact ⟨x,y,by show jA _ 3=_; rw [h]; rfl⟩
theorem div_le {b c:Bal} (hb:b.lo≤b.hi) (hc:0<c.lo):(iT b c).lo≤(iT b c).hi:=by
 have h1:=minF_le (cor (dvL b.q) b c) 3
 have h2:=le_maxF (cor (dvU b.q) b c) 3
 have h3:cor (dvL b.q) b c 0≤cor (dvU b.q) b c 0:=by
  show dvL b.q b.lo c.lo≤dvU b.q b.lo c.lo
  rw [dvL_eq]
  exact pY hc (Int.le_refl _)
 show iZ _ 3≤jA _ 3
 omega
theorem dv2_in {a:Bool} {x P M:Int} (hP:0<P) (h0 : -(M*P)≤x) (h1:x≤M*P) : -M≤dv2 a x P∧dv2 a x P≤M:=by
 have e1:∀ y:Int, -(M*P)≤y→y≤M*P → -M≤y/P∧y/P≤M:=fun y h0 h1=>⟨Int.le_ediv_of_mul_le hP (by rw [Int.neg_mul]; omega),by
  have:=Int.ediv_le_ediv hP h1
  rwa [Int.mul_ediv_cancel _ (Int.ne_of_gt hP)] at this⟩
 cases a
 ·exact e1 x h0 h1
 ·have:=e1 (-x) qN qN
  show -M ≤ -(-x/P) ∧ -(-x/P)≤M
  omega
def yq (m q:Int):Int:=m*2^far (q+1 - (bH m.natAbs:Nat))
theorem gM (m:Int) (h:0<m):1≤bH m.natAbs∧2^(bH m.natAbs - 1)≤m:=by
 have h1:1≤bH m.natAbs∧2^(bH m.natAbs - 1)≤m.natAbs:=by
  unfold bH
  split
  ·rename_i h0; omega
  ·rename_i h0
   refine ⟨by omega,?_⟩
   rw [Nat.add_sub_cancel]
   exact Nat.log2_self_le h0
 refine ⟨h1.1,?_⟩
 have h2:((2^(bH m.natAbs - 1):Nat):Int)=(2:Int)^(bH m.natAbs - 1):=by simp
 omega
theorem Xp.bl {m e:Int} (h:Xp m e):bH m.natAbs≤53:=by
 have h1:=gM m h.pos
 rcases Nat.lt_or_ge 53 (bH m.natAbs) with h2 | h2
 ·have h3:(2:Int)^53≤2^(bH m.natAbs - 1):=bW qN
  rw [show (2:Int)^53=9007199254740992 by rfl] at h3
  have:=h.lt
  omega
 ·exact h2
theorem yq_in {m e q:Int} (h:Xp m e) (hq:60≤q∧q≤1200):2^far q≤yq m q∧yq m q<2*2^far q:=by
 have hb:=h.bl
 have h1:=gM m h.pos
 have h2:=iK m h.pos
 have hp:=cR (q+1 - (bH m.natAbs:Nat))
 unfold yq
 constructor
 ·have h3:=Int.mul_le_mul_of_nonneg_right h1.2 (show (0:Int)≤2^far (q+1 - (bH m.natAbs:Nat)) by omega)
  rw [← Int.pow_add,show bH m.natAbs - 1+far (q+1 - (bH m.natAbs:Nat))=far q by unfold far; omega] at h3
  exact h3
 ·have h3:=Int.mul_lt_mul_of_pos_right h2 (show (0:Int)<2^far (q+1 - (bH m.natAbs:Nat)) by omega)
  rw [← Int.pow_add,show bH m.natAbs+far (q+1 - (bH m.natAbs:Nat))=1+far q by unfold far; omega,Int.pow_add] at h3
  exact h3
theorem lgP_eq {m e q:Int} (h:Xp m e) (hq:60≤q∧q≤1200):lgP m e q=⟨yq m q,yq m q,q⟩:=by
 have hb:=h.bl
 unfold lgP
 rw [hJ h.low,tE h.low,show e + -(lgS m e)+((0:Nat):Int)=1 - (bH m.natAbs:Nat) by unfold lgS; omega,nB qN qN qN]
 unfold xq yq
 rw [show (1 - ((bH m.natAbs:Nat):Int)+q)=q+1 - (bH m.natAbs:Nat) by omega]
theorem l8 {q:Int} (hq:0≤q∧q≤1200):jO q=⟨2^far q,2^far q,q⟩:=by
 unfold jO
 rw [nB qN qN qN]
 unfold xq
 rw [Int.one_mul,Int.zero_add]
structure LogIn (m e q:Int):Prop where
 qq:(lgD m e q).q=q
 lo0:0≤(lgD m e q).lo
 le:(lgD m e q).lo≤(lgD m e q).hi
 hi1:3*(lgD m e q).hi≤2^far q+3
 ends:∀ a,bc a (lgD m e q)=dv2 a ((yq m q - 2^far q)*2^far q) (yq m q+2^far q)
theorem log_in {m e q:Int} (h:Xp m e) (hq:60≤q∧q≤1200):LogIn m e q:=by
 have hy:=yq_in h hq
 have hF:=cR q
 have ends:∀ a,bc a (lgD m e q)=dv2 a ((yq m q - 2^far q)*2^far q) (yq m q+2^far q):=fun a=>by
  unfold lgD
  rw [lgP_eq h hq,l8 ⟨by omega,by omega⟩]
  obtain ⟨x,y,hxy⟩:=bc_div a (iV ⟨yq m q,yq m q,q⟩ ⟨2^far q,2^far q,q⟩) (kO ⟨yq m q,yq m q,q⟩ ⟨2^far q,2^far q,q⟩)
  rw [hxy]
  have e1:bc x (iV ⟨yq m q,yq m q,q⟩ ⟨2^far q,2^far q,q⟩)=yq m q - 2^far q:=by cases x <;> exact Int.sub_eq_add_neg.symm
  have e2:bc y (kO ⟨yq m q,yq m q,q⟩ ⟨2^far q,2^far q,q⟩)=yq m q+2^far q:=by cases y <;> rfl
  rw [e1,e2]
  rfl
 have hX:0≤(yq m q - 2^far q)*2^far q:=Int.mul_nonneg qN qN
 have hX3:3*((yq m q - 2^far q)*2^far q)≤2^far q*(yq m q+2^far q):=by
  have:(3*(yq m q - 2^far q))*2^far q≤(yq m q+2^far q)*2^far q:=Int.mul_le_mul_of_nonneg_right qN qN
  have e1:(3*(yq m q - 2^far q))*2^far q=3*((yq m q - 2^far q)*2^far q):=Int.mul_assoc _ _ _
  have e2:(yq m q+2^far q)*2^far q=2^far q*(yq m q+2^far q):=Int.mul_comm _ _
  omega
 have hlo:(lgD m e q).lo=(yq m q - 2^far q)*2^far q/(yq m q+2^far q):=ends false
 have hhi:(lgD m e q).hi=upz ((yq m q - 2^far q)*2^far q) (yq m q+2^far q):=ends true
 refine ⟨?_,?_,?_,?_,ends⟩
 ·unfold lgD; rw [lgP_eq h hq]; rfl
 ·rw [hlo]; exact Int.ediv_nonneg hX qN
 ·rw [hlo,hhi]; exact pY qN (Int.le_refl _)
 ·rw [hhi]
  have h2:=(st_upz (D:=yq m q+2^far q) qN 1 ((yq m q - 2^far q)*2^far q)).1
  rw [Int.mul_one] at h2
  generalize upz ((yq m q - 2^far q)*2^far q) (yq m q+2^far q)=z at *
  have h3:(yq m q+2^far q)*(3*(z - 1))≤(yq m q+2^far q)*2^far q:=by
   have e1:(yq m q+2^far q)*(3*(z - 1))=3*((yq m q+2^far q)*(z - 1)):=by grind
   have e2:(yq m q+2^far q)*2^far q=2^far q*(yq m q+2^far q):=Int.mul_comm _ _
   omega
  have:=Int.le_of_mul_le_mul_left h3 qN
  omega
theorem times_in {b:Bal} {k M N:Int} (h:∀ a, -M≤bc a b∧bc a b≤M) (hk:k.natAbs≤N) (hM:0≤M) (a:Bool) : -(M*N)≤bc a (b8 b k)∧bc a (b8 b k)≤M*N:=by
 have key:∀ x:Int, -M≤x→x≤M → -(M*N)≤x*k∧x*k≤M*N:=fun x h1 h2=>by
  have h3:(x*k).natAbs≤(M*N).natAbs:=by
   rw [Int.natAbs_mul,Int.natAbs_mul]
   exact Nat.mul_le_mul qN qN
  have h4:0≤M*N:=Int.mul_nonneg hM qN
  omega
 unfold b8
 split
 ·have h1:=h (!a)
  cases a <;> exact key _ h1.1 h1.2
 ·have h1:=h a
  cases a <;> exact key _ h1.1 h1.2
structure LgIn (m e q:Int):Prop where
 aq:(lgA m e q).q=q
 le:(lgA m e q).lo≤(lgA m e q).hi
 lo0:0≤(lgA m e q).lo
 hi:(lgA m e q).hi≤404*2^far q
theorem lg_in {m e q:Int} (h:Xp m e) (hq:60≤q∧q≤1000):LgIn m e q:=by
 obtain ⟨i1,i2,i3,i4,i5⟩:=log_in h (q:=q) ⟨by omega,by omega⟩
 have hF:=fM (q:=q) qN qN
 have hle:=vU i2 i3 q (nL q)
 have b2:=uC (shrA (q:=q) (G:=8) (t:=(lgD m e q).hi) ⟨by omega,by omega⟩ qE qN (gP (c:=3) qN qN hF qE qE qE)) (f:=(lgD m e q).hi) qN (term:=fR) (.inr rfl) (n:=nL q) (by unfold nL; omega) true
 have b2':(dZ (lgD m e q).hi q (nL q)).2≤404*(2*(lgD m e q).hi+5):=b2.2
 exact ⟨rfl,hle.2,hle.1,by show (dZ (lgD m e q).hi q (nL q)).2≤_; omega⟩
theorem sm_ok {b:Bal} {q:Int} (hq:0≤q∧q≤1000) (hb:b.q=q) (hle:b.lo≤b.hi) (h:∀ a, -(4096*2^far q)≤bc a b∧bc a b≤4096*2^far q):b.ok 17 :=
 Sml.ok ⟨hb,hle,(h false).1,(h true).2⟩ hq
theorem logOk {m e q:Int} (h:Xp m e) (hq:200≤q∧q≤1000):LogOk m e q 17:=by
 obtain ⟨i1,i2,i3,i4,i5⟩:=log_in h (q:=q) ⟨by omega,by omega⟩
 obtain ⟨j1,j2,j3,j4⟩:=lg_in h (q:=q) ⟨by omega,by omega⟩
 have hF:=fM (q:=q) qN qN
 have hd:=h.dy
 have hl0:=h.lg0
 have hl1:=h.lg1
 have he0:=h.e0
 have he1:=h.e1
 have hy:=yq_in h (q:=q) ⟨by omega,by omega⟩
 have hm:=h.pos
 refine ⟨hd.mono qE,by decide,by omega,by omega,by omega,?_,?_,?_,i2,?_,?_⟩
 ·rw [hJ h.low,tE h.low]
  exact ⟨hd.sm.mono qE,by omega,by omega,fun h0=>by omega⟩
 ·rw [lgP_eq h ⟨by omega,by omega⟩,l8 ⟨by omega,by omega⟩]
  show 0<yq m q+2^far q
  omega
 ·exact (sm_ok (q:=q) ⟨by omega,hq.2⟩ i1 i3 (fun a=>by cases a; (show -(4096*2^far q)≤(lgD m e q).lo∧(lgD m e q).lo≤_; omega); (show -(4096*2^far q)≤(lgD m e q).hi∧(lgD m e q).hi≤_; omega))).mono qE
 ·rw [show (2:Int)^far 1=2 by rfl]; omega
 ·exact (sm_ok (q:=q) ⟨by omega,hq.2⟩ j1 j2 (fun a=>by cases a; (show -(4096*2^far q)≤(lgA m e q).lo∧(lgA m e q).lo≤_; omega); (show -(4096*2^far q)≤(lgA m e q).hi∧(lgA m e q).hi≤_; omega))).mono qE
theorem lgB_in {m e q:Int} (h:Xp m e) (hq:60≤q∧q≤1000):(lgB m e q).q=q∧(lgB m e q).lo≤(lgB m e q).hi∧(∀ a,0≤bc a (lgB m e q)∧bc a (lgB m e q)≤808*2^far q):=by
 obtain ⟨j1,j2,j3,j4⟩:=lg_in h hq
 have hE:lgB m e q=⟨(lgA m e q).lo*2,(lgA m e q).hi*2,q⟩:=rfl
 rw [hE]
 exact ⟨rfl,by show _*2≤_*2; omega,fun a=>by cases a; (show 0≤(lgA m e q).lo*2∧(lgA m e q).lo*2≤_; omega); (show 0≤(lgA m e q).hi*2∧(lgA m e q).hi*2≤_; omega)⟩
theorem bc_add (a:Bool) (b c:Bal):bc a (kO b c)=bc a b+bc a c:=by cases a <;> rfl
theorem times_le {b:Bal} (h:b.lo≤b.hi) (k:Int):(b8 b k).lo≤(b8 b k).hi:=by
 unfold b8
 split
 ·exact Int.mul_le_mul_of_nonpos_right h qN
 ·exact Int.mul_le_mul_of_nonneg_right h qN
theorem log_sml {m e:Int} (h:Xp m e) {L:Bal} {q:Int} (hL:L2 L q) (hq:200≤q∧q≤1000):Sml (uS m e L) q:=by
 obtain ⟨g1,g2,g3⟩:=lgB_in h (q:=q) ⟨by omega,hq.2⟩
 have l1:=hL.lo
 have l2:=hL.hi
 have l3:=hL.le
 have hF:=cR q
 have hl0:=h.lg0
 have hl1:=h.lg1
 have ht:=times_in (b:=L) (k:=lgS m e) (M:=2^far q) (N:=64) (fun a=>by cases a; (show -(2^far q)≤L.lo∧L.lo≤_; omega); (show -(2^far q)≤L.hi∧L.hi≤_; omega)) qN qN
 have hle:=times_le l3 (lgS m e)
 unfold uS
 rw [hL.qq]
 have b0:=bc_add false (lgB m e q) (b8 L (lgS m e))
 have b1:=bc_add true (lgB m e q) (b8 L (lgS m e))
 have c0:=g3 false
 have c1:=g3 true
 have d0:=ht false
 have d1:=ht true
 exact ⟨g1,Int.add_le_add g2 hle,by show _≤bc false (kO _ _); rw [b0]; omega,by show bc true (kO _ _)≤_; rw [b1]; omega⟩
theorem lgQ_in {m e:Int} (h:Xp m e) {L:Bal} {q:Int} (hL:L2 L q) (hq:200≤q∧q≤1000):(iT (lgB m e q) L).q=q∧(iT (lgB m e q) L).lo≤(iT (lgB m e q) L).hi∧∀ a, -(1200*2^far q)≤bc a (iT (lgB m e q) L)∧bc a (iT (lgB m e q) L)≤1200*2^far q:=by
 obtain ⟨g1,g2,g3⟩:=lgB_in h (q:=q) ⟨by omega,hq.2⟩
 have l1:=hL.lo
 have l2:=hL.hi
 have l3:=hL.le
 have hF:=cR q
 refine ⟨g1,div_le g2 qN,fun a=>?_⟩
 obtain ⟨x,y,hxy⟩:=bc_div a (lgB m e q) L
 rw [hxy,g1]
 have gx:=g3 x
 have ly:692*2^far q≤1000*bc y L:=by cases y; exact l1; (show _≤1000*L.hi; omega)
 generalize bc x (lgB m e q)=X at *
 generalize bc y L=Y at *
 have hX:0≤X*2^far q:=Int.mul_nonneg gx.1 qN
 have e1:X*2^far q≤808*2^far q*2^far q:=Int.mul_le_mul_of_nonneg_right gx.2 qN
 have e2:1200*2^far q*(692*2^far q)≤1200*2^far q*(1000*Y):=Int.mul_le_mul_of_nonneg_left ly qN
 have e3:1200*2^far q*(692*2^far q)=830400*((2:Int)^far q*2^far q):=by grind
 have e4:808*(2:Int)^far q*2^far q=808*(2^far q*2^far q):=Int.mul_assoc _ _ _
 have e5:1200*(2:Int)^far q*(1000*Y)=1000*(1200*2^far q*Y):=by grind
 have e6:0≤(2:Int)^far q*2^far q:=Int.mul_nonneg qN qN
 exact dv2_in qN qN qN
theorem log2_sml {m e:Int} (h:Xp m e) {L:Bal} {q:Int} (hL:L2 L q) (hq:200≤q∧q≤1000):Sml (kG m e L) q:=by
 obtain ⟨g1,g2,g3⟩:=lgQ_in h hL hq
 have hF:=cR q
 have hl0:=h.lg0
 have hl1:=h.lg1
 have ht:=times_in (b:=jO q) (k:=lgS m e) (M:=2^far q) (N:=64) (fun a=>by rw [l8 ⟨by omega,by omega⟩]; cases a <;> (show -(2^far q)≤(2:Int)^far q∧(2:Int)^far q≤2^far q; omega)) qN qN
 have hle:=times_le (b:=jO q) (by rw [l8 ⟨by omega,by omega⟩]; exact Int.le_refl _) (lgS m e)
 unfold kG
 rw [hL.qq]
 have b0:=bc_add false (iT (lgB m e q) L) (b8 (jO q) (lgS m e))
 have b1:=bc_add true (iT (lgB m e q) L) (b8 (jO q) (lgS m e))
 have c0:=g3 false
 have c1:=g3 true
 have d0:=ht false
 have d1:=ht true
 exact ⟨g1,Int.add_le_add g2 hle,by show _≤bc false (kO _ _); rw [b0]; omega,by show bc true (kO _ _)≤_; rw [b1]; omega⟩
def logA (m e q:Int):Bal:=c9 (uS m e (cW (q+40))) q
def log2A (m e q:Int):Bal:=c9 (kG m e (cW (q+40))) q
theorem at_log {m e q:Int} (h:Xp m e) (hq:160≤q∧q≤800) (v:Value):aY Tryz.prog 57 [.int .i64 2,v,.int .i64 q] [(v,dyD m e)] (fun r os fs=>os=[]∧∃ x,r=.tuple #[x,.int .i64 0,.int .i64 0]∧fs=[(x,aN (logA m e q).lo (logA m e q).hi (logA m e q).q)]):=by
 have hL:=iM (q:=q+40) qN qN
 have hm:=h.pos
 have he:=h.e0
 have hd:=h.dy
 have hl0:=h.lg0
 have hl1:=h.lg1
 refine eAt v 2 m e q _ _ _ _ _ 1 hd qE ⟨by omega,hq.2⟩ eNamed2 (eMeth2 _) (fun u=>?_) (fun u z=>?_) (((log_sml h hL ⟨by omega,by omega⟩).ok ⟨by omega,by omega⟩).mono qE)
 ·rw [hJ h.low,jC h.low qN]
  exact eMay2 u m e q 1 hd qE ⟨by omega,hq.2⟩ qN hm ⟨by omega,by omega⟩
 ·rw [hJ h.low,jC h.low qN]
  exact eLogAt u z m e _ 17 (by rw [hL.qq]; exact logOk h ⟨by omega,by omega⟩) (hL.ok ⟨by omega,by omega⟩)
theorem at_log2 {m e q:Int} (h:Xp m e) (hq:160≤q∧q≤800) (v:Value):aY Tryz.prog 57 [.int .i64 3,v,.int .i64 q] [(v,dyD m e)] (fun r os fs=>os=[]∧∃ x,r=.tuple #[x,.int .i64 0,.int .i64 0]∧fs=[(x,aN (log2A m e q).lo (log2A m e q).hi (log2A m e q).q)]):=by
 have hL:=iM (q:=q+40) qN qN
 have hm:=h.pos
 have he:=h.e0
 have hd:=h.dy
 have hl0:=h.lg0
 have hl1:=h.lg1
 have hF:=cR (q+40)
 have hlo:=hL.lo
 obtain ⟨g1,g2,g3⟩:=lgQ_in h hL ⟨by omega,by omega⟩
 refine eAt v 3 m e q _ _ _ _ _ 1 hd qE ⟨by omega,hq.2⟩ eNamed3 (eMeth3 _) (fun u=>?_) (fun u z=>?_) (((log2_sml h hL ⟨by omega,by omega⟩).ok ⟨by omega,by omega⟩).mono qE)
 ·rw [hJ h.low,jC h.low qN]
  exact eMay3 u m e q 1 hd qE ⟨by omega,hq.2⟩ qN hm ⟨by omega,by omega⟩
 ·rw [hJ h.low,jC h.low qN]
  exact eLog2At u z m e _ 17 (by rw [hL.qq]; exact logOk h ⟨by omega,by omega⟩) (hL.ok ⟨by omega,by omega⟩) qN (by
   rw [hL.qq]
   exact (sm_ok (q:=q+40) ⟨by omega,by omega⟩ g1 g2 (fun a=>by have:=g3 a; omega)).mono qE)
theorem tA {c q:Int} (hc:5≤c∧c≤1000) (hq:20≤q∧q≤1200) {n:Nat} (hn:n≤400):(ofB fF c q n).ok 10000000:=by
 have hT:=oR (c:=c) (q:=q) qN
 have hF:(1048576:Int)≤2^far q:=by
  rw [show (1048576:Int)=2^20 by rfl]
  exact bW (by unfold far; omega)
 have h5:5*ofT c q≤2^far q:=by
  have:=Int.mul_le_mul_of_nonneg_right hc.1 hT.1
  omega
 exact ⟨atan_ord ⟨by omega,by omega⟩ hT.1 hF h5 n,by show 0≤q; omega,by show q≤2048; omega,(atanV_sz (uK _ (Or.inl rfl)) qE hn).1.mono qE,(atanV_sz (uK _ (Or.inr rfl)) qE hn).2.mono qE⟩
theorem pi_le {q:Int} (hq:20≤q∧q≤1000):(piB q).lo≤(piB q).hi:=by
 have h1:=gC (tA (c:=5) (q:=q+16) (n:=nP (q+16)) qE ⟨by omega,by omega⟩ (by unfold nP; omega)) (dR 16 qE)
 have h2:=gC (tA (c:=239) (q:=q+16) (n:=nP (q+16)) qE ⟨by omega,by omega⟩ (by unfold nP; omega)) (dR 4 qE)
 exact m8 (subB_ok (h1.mono (show _≤10000002 by decide)) (h2.mono qE)).le _
structure P3 (b:Bal) (q:Int):Prop where
 qq:b.q=q
 lo:3140*2^far q≤1000*b.lo
 hi:1000*b.hi≤3143*2^far q
 le:b.lo≤b.hi
 w:b.hi - b.lo≤4398046511104
theorem pi_P3 {q:Int} (hq:200≤q) (hq1:q≤900):P3 (piB q) q:=by
 obtain ⟨d,rfl,hF⟩:=far200 hq qN
 have h:=pi_nr (q:=200) (d:=d) qE qN
 have w:=pi_nr (q:=200+d) (d:=0) qN qN
 have hw:=(w.nr false true).1
 have h2:(piB 200).lo≤(piB 200).hi:=pi_le qE
 have hl:=at200 (h.nr false false) (lo:=3141) (hi:=3142) qE pi_200.1 (by
  have h1:=pi_200.2
  show 1000*(piB 200).lo≤_
  omega)
 have hh:=at200 (h.nr true true) (lo:=3141) (hi:=3142) qE (by
  have h1:=pi_200.1
  show _≤1000*(piB 200).hi
  omega) pi_200.2
 refine ⟨rfl,?_,?_,pi_le ⟨by omega,by omega⟩,?_⟩
 ·rw [hF]; exact hl.1
 ·rw [hF]; exact hh.2
 ·rw [show ((200+d:Int))+((0:Nat):Int)=200+d by omega,Int.pow_zero,Int.mul_one,Int.mul_one] at hw
  exact hw
theorem nX (a:Bool) (b:Bal):bc a (shiftB b (-1))=dv2 a (bc a b) 2:=by
 cases a
 ·show fA b.lo (- -1)=b.lo/2
  rw [mH qE]; rfl
 ·show upV b.hi (- -1) = -(-b.hi/2)
  unfold upV
  rw [mH qE]; rfl
structure WvIn (m e q:Int):Prop where
 h0:1570*2^far q≤1000*(wvH q).lo+1000
 h1:1000*(wvH q).hi≤1572*2^far q
 hle:(wvH q).lo≤(wvH q).hi
 hw:(wvH q).hi - (wvH q).lo≤4398046511104
 hq:(wvH q).q=q
 k0:0≤wvK m e q
 k1:wvK m e q≤660
 rq:(wvR m e q).q=q
 lo0:0≤(wvR m e q).lo
 lo1:(wvR m e q).lo<(wvH q).hi
 lh:(wvR m e q).lo≤(wvR m e q).hi
 wd:(wvR m e q).hi - (wvR m e q).lo≤4398046511104*660
 eL:(wvR m e q).lo=xq m e q - (wvH q).hi*wvK m e q
 eH:(wvR m e q).hi=xq m e q - (wvH q).lo*wvK m e q
theorem wv_in {m e:Int} (h:Xp m e) {q:Int} (hq:200≤q∧q≤900):WvIn m e q:=by
 have he:=h.e0
 have hx:=xq_in h (q:=q) ⟨by omega,by omega⟩
 have hP:=nB (m:=m) (e:=e) (q:=q) qN qN qN
 have hF:(2:Int)^200≤2^far q:=bW (by unfold far; omega)
 rw [show (2:Int)^200=1606938044258990275541962092341162602522202993782792835301376 by rfl] at hF
 obtain ⟨l1,l2,l3,l4,l5⟩:=pi_P3 hq.1 hq.2
 have b0:(wvH q).lo=(piB q).lo/2:=nX false (piB q)
 have b1:(wvH q).hi = -(-(piB q).hi/2):=nX true (piB q)
 have bq:(wvH q).q=q:=l1
 have hh:0<(wvH q).hi:=by omega
 have hk:wvK m e q=xq m e q/(wvH q).hi:=by unfold wvK; rw [hP]
 have k0:0≤wvK m e q:=by rw [hk]; exact Int.ediv_nonneg qN qN
 have d1:=Int.mul_ediv_add_emod (xq m e q) (wvH q).hi
 have d2:=Int.emod_lt_of_pos (xq m e q) hh
 have d3:=Int.emod_nonneg (xq m e q) (Int.ne_of_gt hh)
 rw [← hk] at d1
 have hR:wvR m e q=⟨xq m e q + -((wvH q).hi*wvK m e q),xq m e q + -((wvH q).lo*wvK m e q),q⟩:=by
  unfold wvR
  rw [hP]
  generalize wvK m e q=K at *
  unfold b8 iV
  rw [if_neg qN]
 have k1:wvK m e q≤660:=by
  rcases Int.lt_or_le 660 (wvK m e q) with hc | hc
  ·exfalso
   have:(wvH q).hi*661≤(wvH q).hi*wvK m e q:=Int.mul_le_mul_of_nonneg_left qN qN
   omega
  ·exact hc
 have hww:(wvH q).hi - (wvH q).lo≤4398046511104:=by omega
 have hww0:(wvH q).lo≤(wvH q).hi:=by omega
 have hw:((wvH q).hi - (wvH q).lo)*wvK m e q≤4398046511104*660:=Int.mul_le_mul hww k1 k0 qE
 have hw0:0≤((wvH q).hi - (wvH q).lo)*wvK m e q:=Int.mul_nonneg qN k0
 have e1:((wvH q).hi - (wvH q).lo)*wvK m e q=(wvH q).hi*wvK m e q - (wvH q).lo*wvK m e q:=Int.sub_mul _ _ _
 refine ⟨by omega,by omega,hww0,hww,bq,k0,k1,by rw [hR],?_,?_,?_,?_,?_,?_⟩ <;> rw [hR] <;> (try simp only) <;> omega
theorem wv_sq {x F:Int} (h0:0≤x) (h:1000*x≤1573*F) (hF:0≤F):x*x*2≤5*(F*F):=by
 have e1:=Int.mul_le_mul h h qN qN
 have e2:1000*x*(1000*x)=1000000*(x*x):=by grind
 have e3:1573*F*(1573*F)=2474329*(F*F):=by grind
 have e4:=Int.mul_nonneg hF hF
 omega
theorem wvS_in {m e:Int} (h:Xp m e) {q:Int} (hq:200≤q∧q≤900) (w:Int):(wvS m e q w).1≤(wvS m e q w).2∧∀ a, -(1400*2^far q)≤cJ a (wvS m e q w)∧cJ a (wvS m e q w)≤1400*2^far q:=by
 have hI:=wv_in h hq
 have hF:=fM (q:=q) qN qN
 have lo0:=hI.lo0
 have lo1:=hI.lo1
 have h1:=hI.h1
 have hs:=wv_sq (F:=2^far q) lo0 qN qN
 unfold wvS
 split
 ·refine ⟨cosV_ord lo0 _,fun a=>?_⟩
  have:=turn_le (shrC (q:=q) ⟨by omega,by omega⟩ lo0 hs) (f:=1*2^far q) qN (term:=fC) (.inl rfl) (n:=nW q) (by unfold nW; omega) a
  have e:cJ a (lS (wvR m e q).lo q (nW q))=cJ a (lW (gQ (wvR m e q).lo q) fC (1*2^far q,1*2^far q) (nW q)):=rfl
  rw [e]
  exact ⟨by omega,by omega⟩
 ·refine ⟨sinV_ord lo0 _,fun a=>?_⟩
  have:=turn_le (shrS (q:=q) ⟨by omega,by omega⟩ lo0 hs) (f:=(wvR m e q).lo) lo0 (term:=fC) (.inl rfl) (n:=nW q) (by unfold nW; omega) a
  have e:cJ a (oZ (wvR m e q).lo q (nW q))=cJ a (lW (rE (wvR m e q).lo q) fC ((wvR m e q).lo,(wvR m e q).lo) (nW q)):=rfl
  rw [e]
  exact ⟨by omega,by omega⟩
theorem wvB_in {m e:Int} (h:Xp m e) {q:Int} (hq:200≤q∧q≤900) (w:Int):(wvB m e q w).q=q∧(wvB m e q w).lo≤(wvB m e q w).hi∧∀ a, -(1500*2^far q)≤bc a (wvB m e q w)∧bc a (wvB m e q w)≤1500*2^far q:=by
 have hI:=wv_in h hq
 obtain ⟨s1,s2⟩:=wvS_in h hq w
 have hF:(2:Int)^200≤2^far q:=bW (by unfold far; omega)
 rw [show (2:Int)^200=1606938044258990275541962092341162602522202993782792835301376 by rfl] at hF
 have lh:=hI.lh
 have wd:=hI.wd
 have c0 : -(1400*2^far q)≤(wvS m e q w).1∧(wvS m e q w).1≤1400*2^far q:=s2 false
 have c1 : -(1400*2^far q)≤(wvS m e q w).2∧(wvS m e q w).2≤1400*2^far q:=s2 true
 refine ⟨rfl,?_,fun a=>?_⟩
 ·show (wvS m e q w).1 - _≤(wvS m e q w).2+_
  omega
 ·cases a
  ·show -(1500*2^far q)≤(wvS m e q w).1 - _∧(wvS m e q w).1 - _≤_
   omega
  ·show -(1500*2^far q)≤(wvS m e q w).2+_∧(wvS m e q w).2+_≤_
   omega
theorem sU {m e:Int} (h:Xp m e) {q:Int} (hq:200≤q∧q≤900) (w:Int):Sml (dW m e q w) q:=by
 obtain ⟨b1,b2,b3⟩:=wvB_in h hq w
 have hF:=cR q
 have c0 : -(1500*2^far q)≤(wvB m e q w).lo∧(wvB m e q w).lo≤1500*2^far q:=b3 false
 have c1 : -(1500*2^far q)≤(wvB m e q w).hi∧(wvB m e q w).hi≤1500*2^far q:=b3 true
 unfold dW
 split
 ·have t:=times_in (b:=wvB m e q w) (k := -1) (M:=1500*2^far q) (N:=1) b3 qE qN
  have t0 : -(1500*2^far q*1)≤(b8 (wvB m e q w) (-1)).lo∧_:=t false
  have t1:_∧(b8 (wvB m e q w) (-1)).hi≤1500*2^far q*1:=t true
  exact ⟨by rw [fJ]; exact b1,times_le b2 (-1),by omega,by omega⟩
 ·exact ⟨b1,b2,by omega,by omega⟩
def sM (m e q w:Int):Bal:=c9 (dW m e (q+40) w) q
theorem wave_at {m e q:Int} (h:Xp m e) (hq:200≤q∧q≤840) (w:Int) (hw:0≤w∧w≤1) (v u:Value) {L:Bal} (hL:L2 L q):aY Tryz.prog 239 [.agg #[.int .i64 w],v,u] [(v,dyD m e),(u,aN L.lo L.hi L.q)] (fun r os fs=>os=[]∧∃ x,r=.tuple #[x,.int .i64 0]∧fs=[(x,aN (dW m e q w).lo (dW m e q w).hi (dW m e q w).q)]):=by
 have hI:=wv_in h (q:=q) ⟨hq.1,by omega⟩
 have hP3:=pi_P3 (q:=q) hq.1 qN
 have hF:=cR q
 have hF2:(1048576:Int)≤2^far q:=fM qN qN
 have hs:∀ x:Int,0≤x→x≤4*2^far q→sz x 17:=fun x h0 h1=>sz_pw (n:=far q+2) (by rw [Int.pow_add,Int.mul_comm]; exact h1) (by have:=cR (q+2); have h9:(0:Int)≤2^(far q+2):=Int.le_of_lt (Int.pow_pos qE); omega) (by unfold far; omega)
 have hx:=xq_in h (q:=q) ⟨by omega,by omega⟩
 have he:=h.e0
 have hP:=nB (m:=m) (e:=e) (q:=q) qN qN qN
 obtain ⟨i1,i2,i3,i4,i5,i6,i7,i8,i9,i10,i11,i12,i13,i14⟩:=hI
 obtain ⟨p1,p2,p3,p4,p5⟩:=hP3
 obtain ⟨b1,b2,b3⟩:=wvB_in h (q:=q) ⟨hq.1,by omega⟩ w
 have hsmall:(2:Int)^200≤2^far q:=bW (by unfold far; omega)
 rw [show (2:Int)^200=1606938044258990275541962092341162602522202993782792835301376 by rfl] at hsmall
 have hr0:sz (wvR m e q).lo 17:=hs _ i9 qN
 have hr1:sz (wvR m e q).hi 17:=hs _ qN qN
 have key:=eWaveAt v u m e w L 17 (h.dy.mono qE) (hL.ok ⟨hq.1,by omega⟩) qE (by rw [hL.qq]; omega) hw h.pos
 rw [hL.qq] at key ⊢
 exact key (cPi q ⟨by omega,by omega⟩ (tA qE ⟨by omega,by omega⟩ (by unfold nP; omega)) (tA qE ⟨by omega,by omega⟩ (by unfold nP; omega)))
  ⟨p4,by rw [p1]; omega,by rw [p1]; omega,(hs _ qN qN).mono qE,(hs _ qN qN).mono qE⟩
  qN ⟨i3,by rw [i5]; omega,by rw [i5]; omega,(hs _ qN qN).mono qE,(hs _ qN qN).mono qE⟩
  (by rw [hP]; show 0≤xq m e q; omega) qN ⟨i11,by rw [i8]; omega,by rw [i8]; omega,hr0.mono qE,hr1.mono qE⟩ i9
  (by rw [show (2:Int)^far 1=2 by rfl]; omega)
  (by have:=sinV_sz (q:=q) (n:=nW q) hr0 qE (by unfold nW; omega); exact ⟨this.1.mono qE,this.2.mono qE⟩)
  (by have:=cosV_sz (q:=q) (n:=nW q) hr0 qE (by unfold nW; omega); exact ⟨this.1.mono qE,this.2.mono qE⟩)
  ((sm_ok (q:=q) ⟨by omega,by omega⟩ b1 b2 (fun a=>by have:=b3 a; omega)).mono qE)
theorem at_sin {m e q:Int} (h:Xp m e) (hq:160≤q∧q≤800) (v:Value):aY Tryz.prog 57 [.int .i64 4,v,.int .i64 q] [(v,dyD m e)] (fun r os fs=>os=[]∧∃ x,r=.tuple #[x,.int .i64 0,.int .i64 0]∧fs=[(x,aN (sM m e q 0).lo (sM m e q 0).hi (sM m e q 0).q)]):=by
 have hL:=iM (q:=q+40) qN qN
 have hm:=h.pos
 have he:=h.e0
 have hd:=h.dy
 refine eAt v 4 m e q _ _ _ _ _ 1 hd qE ⟨by omega,hq.2⟩ eNamed4 (eMeth4 _) (fun u=>?_) (fun u z=>?_) (((sU h (q:=q+40) ⟨by omega,by omega⟩ 0).ok ⟨by omega,by omega⟩).mono qE)
 ·rw [hJ h.low,jC h.low qN]
  exact eMay4 u m e q 1 hd qE ⟨by omega,hq.2⟩ qN qN h.lg1
 ·rw [hJ h.low,jC h.low qN]
  exact wave_at h (q:=q+40) ⟨by omega,by omega⟩ 0 qE u z hL
theorem at_cos {m e q:Int} (h:Xp m e) (hq:160≤q∧q≤800) (v:Value):aY Tryz.prog 57 [.int .i64 5,v,.int .i64 q] [(v,dyD m e)] (fun r os fs=>os=[]∧∃ x,r=.tuple #[x,.int .i64 0,.int .i64 0]∧fs=[(x,aN (sM m e q 1).lo (sM m e q 1).hi (sM m e q 1).q)]):=by
 have hL:=iM (q:=q+40) qN qN
 have hm:=h.pos
 have he:=h.e0
 have hd:=h.dy
 refine eAt v 5 m e q _ _ _ _ _ 1 hd qE ⟨by omega,hq.2⟩ eNamed5 (eMeth4 _) (fun u=>?_) (fun u z=>?_) (((sU h (q:=q+40) ⟨by omega,by omega⟩ 1).ok ⟨by omega,by omega⟩).mono qE)
 ·rw [hJ h.low,jC h.low qN]
  exact eMay5 u m e q 1 hd qE ⟨by omega,hq.2⟩ qN qN h.lg1
 ·rw [hJ h.low,jC h.low qN]
  exact wave_at h (q:=q+40) ⟨by omega,by omega⟩ 1 qE u z hL
theorem xq_nr {m e q:Int} {d:Nat} (h:Xp m e) (hq:116≤q) (hd:q+d≤1000):Nr (2^d) 0 (xq m e q) (xq m e (q+d)):=by
 have:=h.e0
 have:=h.e1
 rw [xq_add qN qN]
 exact Nr.exact _ _
theorem near_exp {m e q:Int} {d:Nat} (h:Xp m e) (hq:160≤q) (hd:q+d≤800) (hK:mG m e (cW (q+40))=mG m e (cW (q+d+40))):BN d 302231454903657293676544 (expA m e q) (expA m e (q+d)):=by
 have h40:q+d+40=q+40+d:=by omega
 rw [h40] at hK
 have hL:=iM (q:=q+40) qN qN
 have hL':=iM (q:=q+40+d) qN qN
 have hI:=vA h hL ⟨by omega,by omega⟩
 have hI':=vA h hL' ⟨by omega,by omega⟩
 have hln:=uT (q:=q+40) (d:=d) qN qN
 have hx:=xq_nr (q:=q+40) (d:=d) h qN qN
 have hA:=cU d
 have k0:=hI.k0
 have k1:=hI.k1
 have ends:∀ a c,Nr (2^d) 813638604554240 (bc a (gY m e (cW (q+40)))) (bc c (gY m e (cW (q+40+d)))):=fun a c=>by
  have h1:=(hx.sub ((hln.nr (!a) (!c)).times k0)).mono (F:=813638604554240) qN (by
   have:(549755813888:Int)*mG m e (cW (q+40))≤549755813888*1480:=Int.mul_le_mul_of_nonneg_left k1 qE
   omega)
  have e1:bc a (gY m e (cW (q+40)))=xq m e (q+40) - bc (!a) (cW (q+40))*mG m e (cW (q+40)):=by
   cases a
   ·exact hI.eL
   ·exact hI.eH
  have e2:bc c (gY m e (cW (q+40+d)))=xq m e (q+40+d) - bc (!c) (cW (q+40+d))*mG m e (cW (q+40)):=by
   rw [hK]
   cases c
   ·exact hI'.eL
   ·exact hI'.eH
  rw [e1,e2]
  exact h1
 have hF:=cR (q+40)
 have hF':=cR (q+40+d)
 have i1:=hI.lo0
 have i2:=hI.lh
 have i3:=hI.hi1
 have j1:=hI'.lo0
 have j2:=hI'.lh
 have j3:=hI'.hi1
 have rng:∀ a,0≤bc a (gY m e (cW (q+40)))∧bc a (gY m e (cW (q+40)))≤2^far (q+40):=fun a=>by
  cases a
  ·show 0≤(gY m e (cW (q+40))).lo∧(gY m e (cW (q+40))).lo≤_; omega
  ·show 0≤(gY m e (cW (q+40))).hi∧(gY m e (cW (q+40))).hi≤_; omega
 have rng':∀ a,0≤bc a (gY m e (cW (q+40+d)))∧bc a (gY m e (cW (q+40+d)))≤2^far (q+40+d):=fun a=>by
  cases a
  ·show 0≤(gY m e (cW (q+40+d))).lo∧(gY m e (cW (q+40+d))).lo≤_; omega
  ·show 0≤(gY m e (cW (q+40+d))).hi∧(gY m e (cW (q+40+d))).hi≤_; omega
 have hq1:(gY m e (cW (q+40))).q=q+40:=by unfold gY iV; rfl
 have hq2:(gY m e (cW (q+40+d))).q=q+40+d:=by unfold gY iV; rfl
 have key:BN d 302231454903657293676542 (gW (gY m e (cW (q+40)))) (gW (gY m e (cW (q+40+d)))):=by
  refine ⟨by show (gY m e (cW (q+40+d))).q=(gY m e (cW (q+40))).q+d; omega,fun a c=>?_⟩
  have e1:bc a (gW (gY m e (cW (q+40))))=cJ a (rL (bc a (gY m e (cW (q+40)))) (q+40) (nE (q+40))):=by
   unfold gW; rw [hq1]; cases a <;> rfl
  have e2:bc c (gW (gY m e (cW (q+40+d))))=cJ c (rL (bc c (gY m e (cW (q+40+d)))) (q+40+d) (nE (q+40+d))):=by
   unfold gW; rw [hq2]; cases c <;> rfl
  rw [e1,e2]
  exact (exp_nr qN qN (rng a).1 (rng a).2 (rng' c).1 (rng' c).2 qE (ends a c) a c).mono qN qE
 unfold expA
 rw [h40]
 exact (key.recast (q:=q) qE (by show q≤(gY m e (cW (q+40))).q; omega) rfl).mono qE
theorem near_exp2 {m e q:Int} {d:Nat} (h:Xp m e) (hq:160≤q) (hd:q+d≤800):BN d 302231454903657293676544 (exp2A m e q) (exp2A m e (q+d)):=by
 have h40:q+d+40=q+40+d:=by omega
 have hL:=iM (q:=q+40) qN qN
 have hL':=iM (q:=q+40+d) qN qN
 have hI:=exp2_r h hL ⟨by omega,by omega⟩
 have hI':=exp2_r h hL' ⟨by omega,by omega⟩
 have hln:=uT (q:=q+40) (d:=d) qN qN
 have hA:=cU d
 have hFA:=jB (q:=q+40) (d:=d) qN qN
 obtain ⟨a1,a2,a3,a4,a5⟩:=exp2_in h (q:=q+40) ⟨by omega,by omega⟩
 have he0:=h.e0
 have he1:=h.e1
 have hfr:frq m e (q+40+d)=frq m e (q+40)*2^d:=by
  unfold frq
  rw [xq_add qN qN,hFA]
  grind
 have hF:=cR (q+40)
 have hF':=cR (q+40+d)
 have eR:∀ a,bc a (e2R m e (cW (q+40)))=dv2 a (bc a (cW (q+40))*frq m e (q+40)) (2^far (q+40)):=fun a=>by
  rw [Int.mul_comm]
  cases a
  ·exact hI.eL
  ·exact hI.eH
 have eR':∀ a,bc a (e2R m e (cW (q+40+d)))=dv2 a (bc a (cW (q+40+d))*frq m e (q+40+d)) (2^far (q+40+d)):=fun a=>by
  rw [Int.mul_comm]
  cases a
  ·exact hI'.eL
  ·exact hI'.eH
 have sdv:∀ (D t p:Int) (a:Bool),0<D→St D t p (dv2 a (p*t) D):=fun D t p a hD=>by
  cases a
  ·exact sY hD t p
  ·exact st_upz hD t p
 have l1':=hL'.lo
 have l3':=hL'.le
 have ends:∀ a c,Nr (2^d) 813638604554240 (bc a (e2R m e (cW (q+40)))) (bc c (e2R m e (cW (q+40+d)))):=fun a c=>by
  rw [eR,eR']
  have hp':0≤bc c (cW (q+40+d)):=by
   cases c
   ·show 0≤(cW (q+40+d)).lo; omega
   ·show 0≤(cW (q+40+d)).hi; omega
  have:=step_nr (A:=2^d) (B:=2^d) (D:=2^far (q+40)) (t:=frq m e (q+40)) (t':=frq m e (q+40+d)) (Et:=0) (E2:=0) (Ep:=549755813888) hA hA qN (sdv _ _ _ a qN) (by rw [← hFA]; exact sdv _ _ _ c qN) a1 hp' (hln.nr a c) (by rw [hfr]; exact Nr.exact _ _) (Int.mul_le_mul_of_nonneg_left qN qE) (by rw [Int.mul_zero,Int.zero_mul]; exact Int.le_refl _)
  exact this.mono qN qE
 have i1:=hI.lo0
 have i2:=hI.lh
 have i3:=hI.hi1
 have j1:=hI'.lo0
 have j2:=hI'.lh
 have j3:=hI'.hi1
 have rng:∀ a,0≤bc a (e2R m e (cW (q+40)))∧bc a (e2R m e (cW (q+40)))≤2^far (q+40):=fun a=>by
  cases a
  ·show 0≤(e2R m e (cW (q+40))).lo∧(e2R m e (cW (q+40))).lo≤_; omega
  ·show 0≤(e2R m e (cW (q+40))).hi∧(e2R m e (cW (q+40))).hi≤_; omega
 have rng':∀ a,0≤bc a (e2R m e (cW (q+40+d)))∧bc a (e2R m e (cW (q+40+d)))≤2^far (q+40+d):=fun a=>by
  cases a
  ·show 0≤(e2R m e (cW (q+40+d))).lo∧(e2R m e (cW (q+40+d))).lo≤_; omega
  ·show 0≤(e2R m e (cW (q+40+d))).hi∧(e2R m e (cW (q+40+d))).hi≤_; omega
 have hq1:=hI.qq
 have hq2:=hI'.qq
 have key:BN d 302231454903657293676542 (gW (e2R m e (cW (q+40)))) (gW (e2R m e (cW (q+40+d)))):=by
  refine ⟨by show (e2R m e (cW (q+40+d))).q=(e2R m e (cW (q+40))).q+d; omega,fun a c=>?_⟩
  have e1:bc a (gW (e2R m e (cW (q+40))))=cJ a (rL (bc a (e2R m e (cW (q+40)))) (q+40) (nE (q+40))):=by
   unfold gW; rw [hq1]; cases a <;> rfl
  have e2:bc c (gW (e2R m e (cW (q+40+d))))=cJ c (rL (bc c (e2R m e (cW (q+40+d)))) (q+40+d) (nE (q+40+d))):=by
   unfold gW; rw [hq2]; cases c <;> rfl
  rw [e1,e2]
  exact (exp_nr qN qN (rng a).1 (rng a).2 (rng' c).1 (rng' c).2 qE (ends a c) a c).mono qN qE
 unfold exp2A
 rw [h40]
 exact (key.recast (q:=q) qE (by show q≤(e2R m e (cW (q+40))).q; omega) rfl).mono qE
end Go.Proofs.YtpbhjlljgbjjlaaGreat
