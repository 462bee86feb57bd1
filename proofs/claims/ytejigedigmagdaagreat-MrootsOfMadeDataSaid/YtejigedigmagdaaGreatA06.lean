/-
 Contracts of functions of the program, and the layer that they are walked with: N08 RatsQ R06 N09 RatsC N10 RatsD N11 RatsM Itv N12 Contr R07 Sorts ItvB ItvC ItvD ItvE OrdersA Pdq VZ W14 W15 W15b N18b W01 VW VX VY. Conditions: as each says.
-/
import Derived.Sort.AssemblyPlain
import Derived.Deep.Slices
import Derived.Carry
import Derived.OpenShut
import Derived.WalkKit
import Derived.ProofKit
import Derived.Deep.DeepHandedRow
import Derived.Lib.LaidTab
import Derived.Test.YtejigedigmagdaaGreatA05
set_option linter.unnecessarySimpa false
set_option linter.unusedVariables false
set_option linter.unusedSimpArgs false
set_option maxHeartbeats 8000000
namespace Go.Proofs.YtejigedigmagdaaGreat
open Go.Vw
attribute [local irreducible] awp awpL awpR
theorem qNt(neg:Bool)(mag:List Nat)(hl:mag.length<10000000000000):Ret Tryz.prog 173 [intC neg mag] (·= .bool (qF1 neg mag)):=by
 have hv:=qJi mag hl
 unfold qF1
 generalize qFu mag=v at *
 cases v<;>cases neg
 ·refine qAa tab Tryz.func173 rfl rfl (lblz rfl) (fun w0 F0=>?_)
  repeat' (first|refine wG ?_|refine wC hv ?_|refine wS ?_ ?_<;>intro _|refine finG ?_)
  rfl
 ·refine qAa tab Tryz.func173 rfl rfl (lblz rfl) (fun w0 F0=>?_)
  repeat' (first|refine wG ?_|refine wC hv ?_|refine wS ?_ ?_<;>intro _|refine finG ?_)
  rfl
 ·refine qAa tab Tryz.func173 rfl rfl (lblz rfl) (fun w0 F0=>?_)
  repeat' (first|refine wG ?_|refine wC hv ?_|refine wS ?_ ?_<;>intro _|refine finG ?_)
  all_goals simp
 ·refine qAa tab Tryz.func173 rfl rfl (lblz rfl) (fun w0 F0=>?_)
  repeat' (first|refine wG ?_|refine wC hv ?_|refine wS ?_ ?_<;>intro _|refine finG ?_)
  ·rename_i h
   simp
   intro e;subst e;simp at h
  ·rename_i h
   simp
   exact List.length_eq_zero_iff.1 (show mag.length=0 by omega)
theorem integer_value(neg:Bool)(mag:List Nat)(wm:WF mag)(hl:mag.length<1000000000000):Ret Tryz.prog 135 [intC neg mag] (·=zD (iv' neg mag)):=by
 have hv:=qNt neg mag (by omega)
 cases h:qF1 neg mag with
 |false=>
  rw [h] at hv
  rw [show iv' neg mag=0 from by simp [iv',h]]
  refine qAa tab Tryz.func135 rfl rfl (lblz rfl) (fun w0 F0=>?_)
  rw [qU8]
  repeat' (first|refine wG ?_|refine wC hv ?_|refine wS ?_ ?_<;>intro _|(show qA5 _ _ _ _ _;first|refine finF true rfl rfl sc ?_|refine finF false rfl rfl sc ?_|refine finC false rfl rfl sc sc ?_|refine finN rfl rfl sc ?_|refine finL true rfl rfl sc rfl (LeR.cons rfl leL LeR.nil) ?_|refine finA true rfl rfl sc ?_|refine finA false rfl rfl sc ?_|refine finE true rfl rfl sc ?_|refine finE false rfl rfl sc ?_))
  exact leL
 |true=>
  rw [h] at hv
  rw [←qOw wm h]
  refine qAa tab Tryz.func135 rfl rfl (lblz rfl) (fun w0 F0=>?_)
  repeat' (first|refine wG ?_|refine wC hv ?_|refine wS ?_ ?_<;>intro _|refine finG ?_)
  rfl
theorem qCt(z:Int)(hl:(qAe z.natAbs).length<1000000000000):Ret Tryz.prog 135 [zD z] (·=zD z):=by
 have:=integer_value (decide (z<0)) (qAe z.natAbs) (qAy _) hl
 rw [qNr] at this
 exact this
theorem qG2(z:Int)(hl:(qAe z.natAbs).length<1000000000000):Ret Tryz.prog 85 [zD z] (·= .int .i64 z.sign):=by
 have ht:=qCt z hl
 obtain ⟨s,n,e1,e2,e3,e4⟩:=qCs z
 rw [e1] at ht
 have hn0:(qAe n).length=0↔n=0:=⟨fun h=>limbs_eq_nil.1 (List.length_eq_zero_iff.1 h),fun h=>by rw [h,qAk];rfl⟩
 rw [e1] at *
 cases s with
 |true=>
  have h0:=e4 rfl
  have:z.sign= -1:=Int.sign_eq_neg_one_of_neg (by simp at e2;omega)
  rw [this]
  refine qAa tab Tryz.func85 rfl rfl (lblz rfl) (fun w0 F0=>?_)
  repeat' (first|refine wG ?_|refine wC ht ?_|refine wS ?_ ?_<;>intro _|refine finG ?_)
  rfl
 |false=>
  simp at e2
  refine qAa tab Tryz.func85 rfl rfl (lblz rfl) (fun w0 F0=>?_)
  repeat' (first|refine wG ?_|refine wC ht ?_|refine wS ?_ ?_<;>intro _|refine finG ?_)
  ·rename_i hp
   have:n=0:=by omega
   subst this
   rw [e2];rfl
  ·rename_i hp
   have:z.sign=1:=Int.sign_eq_one_of_pos (by omega)
   rw [this]
theorem qR0(z:Int)(hl:(qAe z.natAbs).length<100000000000):Ret Tryz.prog 175 [zD z] (·=zD z):=by
 obtain ⟨s,n,e1,e2,e3,e4⟩:=qCs z
 rw [e3] at hl
 have ha:=qEb n 0 (by omega) (by rw [qAk];simp)
 rw [qAk,Nat.add_zero] at ha
 have hs:=qA1 s n (by omega)
 rw [←e2] at hs
 rw [e1] at hs ⊢
 refine qAa tab Tryz.func175 rfl rfl (lblz rfl) (fun w0 F0=>?_)
 repeat' (first|refine wG ?_|refine wC ha ?_|refine wC hs ?_|refine rg 1 5 ?_|refine wS ?_ ?_<;>intro _|refine finG ?_)
 rfl
theorem qPn(z:Int)(hl:(qAe z.natAbs).length<100000000000):Ret Tryz.prog 138 [zD z] (·=zD (-z)):=by
 have ht:=qCt z (by omega)
 have hc:=qR0 z hl
 obtain ⟨s,n,e1,e2,e3,e4⟩:=qCs z
 rw [e1] at ht hc
 rw [e3] at hl
 have hs:=qA1 (!s) n (by omega)
 have:(if (!s)=true then-(n:Int) else n)= -z:=by cases s<;>simp at e2 ⊢ <;>omega
 rw [this] at hs
 rw [e1]
 cases s with
 |true=>
  refine qAa tab Tryz.func138 rfl rfl (lblz rfl) (fun w0 F0=>?_)
  repeat' (first|refine wG ?_|refine wC ht ?_|refine wC hc ?_|refine wC hs ?_|refine wS ?_ ?_<;>intro _|refine finG ?_)
  rfl
 |false=>
  refine qAa tab Tryz.func138 rfl rfl (lblz rfl) (fun w0 F0=>?_)
  repeat' (first|refine wG ?_|refine wC ht ?_|refine wC hc ?_|refine wC hs ?_|refine wS ?_ ?_<;>intro _|refine finG ?_)
  rfl
theorem qH6(x y:Int)(h:(qAe x.natAbs).length<1000000000)(k:(qAe y.natAbs).length<1000000000):Ret Tryz.prog 93 [zD x,zD y] (·=zD (x+y)):=by
 have ta:=qCt x (by omega)
 have tb:=qCt y (by omega)
 obtain ⟨s,a,e1,e2,e3,e4⟩:=qCs x
 obtain ⟨t,b,f1,f2,f3,f4⟩:=qCs y
 rw [e1] at ta
 rw [f1] at tb
 rw [e3] at h
 rw [f3] at k
 have ladd:=qUg a b
 have ls:=qCd (Nat.sub_le a b) h
 have ls':=qCd (Nat.sub_le b a) k
 simp only [ln] at ladd
 rw [e1,f1]
 cases s<;>cases t
 ·refine qAa tab Tryz.func93 rfl rfl (lblz rfl) (fun w0 F0=>?_)
  repeat' (first|refine wG ?_|refine wC ta ?_|refine wC tb ?_|refine cl 142 tt rfl rfl rfl (hr:=qDi _ _ (by omega) (by omega)) (k:=?_)|refine clR 142 tt rfl rfl rfl (hr:=qDi _ _ (by omega) (by omega)) (k:=?_)|refine cl 141 tt rfl rfl rfl (hr:=qA1 _ _ (by omega)) (k:=?_)|refine clR 141 tt rfl rfl rfl (hr:=qA1 _ _ (by omega)) (k:=?_)|refine cl 140 tt rfl rfl rfl (hr:=qEb _ _ (by omega) (by omega)) (k:=?_)|refine clR 140 tt rfl rfl rfl (hr:=qEb _ _ (by omega) (by omega)) (k:=?_)|refine cl 141 tt rfl rfl rfl (hr:=qA1 false _ (by omega)) (k:=?_)|refine clR 141 tt rfl rfl rfl (hr:=qA1 false _ (by omega)) (k:=?_)|refine rg 1 3 ?_|refine rg 3 7 ?_|refine wS ?_ ?_<;>intro _|refine finG ?_)
  refine congrArg zD ?_
  rw [e2,f2];simp only [Bool.false_eq_true,if_true,if_false];omega
 ·refine qAa tab Tryz.func93 rfl rfl (lblz rfl) (fun w0 F0=>?_)
  repeat' (first|refine wG ?_|refine wC ta ?_|refine wC tb ?_|refine cl 142 tt rfl rfl rfl (hr:=qDi _ _ (by omega) (by omega)) (k:=?_)|refine clR 142 tt rfl rfl rfl (hr:=qDi _ _ (by omega) (by omega)) (k:=?_)|refine cl 141 tt rfl rfl rfl (hr:=qA1 _ _ (by omega)) (k:=?_)|refine clR 141 tt rfl rfl rfl (hr:=qA1 _ _ (by omega)) (k:=?_)|refine rg 1 3 ?_|refine rg 3 7 ?_|refine wS ?_ ?_<;>intro _|refine finG ?_)
  ·refine congrArg zD ?_
   rw [e2,f2];simp only [Bool.false_eq_true,if_true,if_false];omega
  ·refine congrArg zD ?_
   rw [e2,f2];simp only [Bool.false_eq_true,if_true,if_false];omega
 ·refine qAa tab Tryz.func93 rfl rfl (lblz rfl) (fun w0 F0=>?_)
  repeat' (first|refine wG ?_|refine wC ta ?_|refine wC tb ?_|refine cl 142 tt rfl rfl rfl (hr:=qDi _ _ (by omega) (by omega)) (k:=?_)|refine clR 142 tt rfl rfl rfl (hr:=qDi _ _ (by omega) (by omega)) (k:=?_)|refine cl 141 tt rfl rfl rfl (hr:=qA1 _ _ (by omega)) (k:=?_)|refine clR 141 tt rfl rfl rfl (hr:=qA1 _ _ (by omega)) (k:=?_)|refine rg 1 3 ?_|refine rg 3 7 ?_|refine wS ?_ ?_<;>intro _|refine finG ?_)
  ·refine congrArg zD ?_
   rw [e2,f2];simp only [Bool.false_eq_true,if_true,if_false];omega
  ·refine congrArg zD ?_
   rw [e2,f2];simp only [Bool.false_eq_true,if_true,if_false];omega
 ·refine qAa tab Tryz.func93 rfl rfl (lblz rfl) (fun w0 F0=>?_)
  repeat' (first|refine wG ?_|refine wC ta ?_|refine wC tb ?_|refine cl 142 tt rfl rfl rfl (hr:=qDi _ _ (by omega) (by omega)) (k:=?_)|refine clR 142 tt rfl rfl rfl (hr:=qDi _ _ (by omega) (by omega)) (k:=?_)|refine cl 141 tt rfl rfl rfl (hr:=qA1 _ _ (by omega)) (k:=?_)|refine clR 141 tt rfl rfl rfl (hr:=qA1 _ _ (by omega)) (k:=?_)|refine cl 140 tt rfl rfl rfl (hr:=qEb _ _ (by omega) (by omega)) (k:=?_)|refine clR 140 tt rfl rfl rfl (hr:=qEb _ _ (by omega) (by omega)) (k:=?_)|refine cl 141 tt rfl rfl rfl (hr:=qA1 true _ (by omega)) (k:=?_)|refine clR 141 tt rfl rfl rfl (hr:=qA1 true _ (by omega)) (k:=?_)|refine rg 1 3 ?_|refine rg 3 7 ?_|refine wS ?_ ?_<;>intro _|refine finG ?_)
  refine congrArg zD ?_
  rw [e2,f2];simp only [if_true];omega
theorem qPo(x y:Int)(h:(qAe x.natAbs).length<1000000000)(k:(qAe y.natAbs).length<1000000000):Ret Tryz.prog 96 [zD x,zD y] (·=zD (x*y)):=by
 have ta:=qCt x (by omega)
 have tb:=qCt y (by omega)
 obtain ⟨s,a,e1,e2,e3,e4⟩:=qCs x
 obtain ⟨t,b,f1,f2,f3,f4⟩:=qCs y
 rw [e1] at ta
 rw [f1] at tb
 rw [e3] at h
 rw [f3] at k
 have lm:=qC8 a b
 simp only [ln] at lm
 have hm:=qKt a b (by omega) (by omega)
 have hs:=fun s=>qA1 s (a*b) (by omega)
 rw [e1,f1,e2,f2]
 cases s<;>cases t
 ·refine qAa tab Tryz.func96 rfl rfl (lblz rfl) (fun w0 F0=>?_)
  repeat' (first|refine wG ?_|refine wC ta ?_|refine wC tb ?_|refine wC hm ?_|refine wC (hs false) ?_|refine rg 1 3 ?_|refine rg 2 10 ?_|refine wS ?_ ?_<;>intro _|refine finG ?_)
  refine congrArg zD ?_
  simp [Int.neg_mul,Int.mul_neg]
 ·refine qAa tab Tryz.func96 rfl rfl (lblz rfl) (fun w0 F0=>?_)
  repeat' (first|refine wG ?_|refine wC ta ?_|refine wC tb ?_|refine wC hm ?_|refine wC (hs true) ?_|refine rg 1 3 ?_|refine rg 2 10 ?_|refine wS ?_ ?_<;>intro _|refine finG ?_)
  refine congrArg zD ?_
  simp [Int.neg_mul,Int.mul_neg]
 ·refine qAa tab Tryz.func96 rfl rfl (lblz rfl) (fun w0 F0=>?_)
  repeat' (first|refine wG ?_|refine wC ta ?_|refine wC tb ?_|refine wC hm ?_|refine wC (hs true) ?_|refine rg 1 3 ?_|refine rg 2 10 ?_|refine wS ?_ ?_<;>intro _|refine finG ?_)
  refine congrArg zD ?_
  simp [Int.neg_mul,Int.mul_neg]
 ·refine qAa tab Tryz.func96 rfl rfl (lblz rfl) (fun w0 F0=>?_)
  repeat' (first|refine wG ?_|refine wC ta ?_|refine wC tb ?_|refine wC hm ?_|refine wC (hs false) ?_|refine rg 1 3 ?_|refine rg 2 10 ?_|refine wS ?_ ?_<;>intro _|refine finG ?_)
  refine congrArg zD ?_
  simp [Int.neg_mul,Int.mul_neg]
theorem cmpZ(x y:Int)(s t:Bool)(a b:Nat)(e2:x=if s=true then-(a:Int) else a)(f2:y=if t=true then-(b:Int) else b)(hx:x.sign=y.sign):x.sign*cmpN a b=(if x<y then-1 else if y<x then 1 else 0):=by
 have hc:cmpN a b=if a<b then-1 else if b<a then 1 else 0:=rfl
 rcases Int.lt_trichotomy x 0 with h|h|h
 ·have h1:=Int.sign_eq_neg_one_of_neg h
  have h2:y<0:=Int.sign_eq_neg_one_iff_neg.1 (hx▸h1)
  rw [h1,hc]
  cases s<;>cases t<;>simp only [Bool.false_eq_true,if_true,if_false] at e2 f2<;>repeat' split
  all_goals omega
 ·have h1:x.sign=0:=by rw [h];rfl
  have h2:y=0:=Int.sign_eq_zero_iff_zero.1 (hx▸h1)
  rw [h1,Int.zero_mul,if_neg (by omega),if_neg (by omega)]
 ·have h1:=Int.sign_eq_one_of_pos h
  have h2:0<y:=Int.sign_eq_one_iff_pos.1 (hx▸h1)
  rw [h1,hc]
  cases s<;>cases t<;>simp only [Bool.false_eq_true,if_true,if_false] at e2 f2<;>repeat' split
  all_goals omega
theorem qP4(x y:Int)(h:(qAe x.natAbs).length<1000000000)(k:(qAe y.natAbs).length<1000000000):Ret Tryz.prog 156 [zD x,zD y] (·= .int .i64 (if x<y then-1 else if y<x then 1 else 0)):=by
 have ta:=qCt x (by omega)
 have tb:=qCt y (by omega)
 have sa:=qG2 x (by omega)
 have sb:=qG2 y (by omega)
 obtain ⟨s,a,e1,e2,e3,e4⟩:=qCs x
 obtain ⟨t,b,f1,f2,f3,f4⟩:=qCs y
 have hcz:=cmpZ x y s t a b e2 f2
 rw [e1] at ta sa
 rw [f1] at tb sb
 rw [e3] at h
 rw [f3] at k
 have hc:=qJ4 a b (by omega) (by omega)
 have hsx:x.sign= -1∧x<0∨x.sign=0∧x=0∨x.sign=1∧0<x:=by
  rcases Int.lt_trichotomy x 0 with h|h|h
  ·exact .inl ⟨Int.sign_eq_neg_one_of_neg h,h⟩
  ·exact .inr (.inl ⟨by rw [h];rfl,h⟩)
  ·exact .inr (.inr ⟨Int.sign_eq_one_of_pos h,h⟩)
 have hsy:y.sign= -1∧y<0∨y.sign=0∧y=0∨y.sign=1∧0<y:=by
  rcases Int.lt_trichotomy y 0 with h|h|h
  ·exact .inl ⟨Int.sign_eq_neg_one_of_neg h,h⟩
  ·exact .inr (.inl ⟨by rw [h];rfl,h⟩)
  ·exact .inr (.inr ⟨Int.sign_eq_one_of_pos h,h⟩)
 have hcb: -1≤cmpN a b∧cmpN a b≤1:=by unfold cmpN;split<;>(try split)<;>omega
 rw [e1,f1]
 generalize x.sign=p at *
 generalize y.sign=q at *
 generalize cmpN a b=c at *
 have hpc: -1≤p*c∧p*c≤1:=by
  rcases hsx with ⟨h,_⟩|⟨h,_⟩|⟨h,_⟩<;>rw [h]<;>omega
 clear e1 f1 e2 f2 e3 f3 e4 f4
 refine qAa tab Tryz.func156 rfl rfl (lblz rfl) (fun w0 F0=>?_)
 repeat' (first|refine wG ?_|refine wC ta ?_|refine wC tb ?_|refine wC sa ?_|refine wC sb ?_|refine wC hc ?_|refine rg 1 3 ?_|refine rg 2 3 ?_|refine wS ?_ ?_<;>intro _|refine finG ?_)
 ·rw [if_pos (by omega)]
 ·rw [if_neg (by omega),if_pos (by omega)]
 ·rw [←hcz (by omega)]
end Go.Proofs.YtejigedigmagdaaGreat
namespace Go.Vw
def dL(d:Nat):List Nat:=if d=1 then [] else qAe d
def rq(q:Rat):R3:=(decide (q.num<0),qAe q.num.natAbs,dL q.den)
def dv(d:List Nat):Nat:=if d=[] then 1 else val d
def qFe(r:R3):Bool:=qF1 r.1 r.2.1&&qFu r.2.2&& !decide (r.2.2=[1])&&(decide (r.2.2=[])||(decide (r.2.1≠[])&&decide (qAe (Nat.gcd (nv r.2.1) (nv r.2.2))=[1])))
def rv(r:R3):Rat:=if h:qFe r=true∧dv r.2.2≠0∧(iv' r.1 r.2.1).natAbs.Coprime (dv r.2.2) then ⟨iv' r.1 r.2.1,dv r.2.2,h.2.1,h.2.2⟩ else 0
theorem limbs_one:qAe 1=[1]:=qCp (by decide) (by decide)
theorem qPc{d:List Nat}(h:qFu d=true)(w:WF d)(h1:d≠[1])(h2:d≠[]):2≤val d:=by
 have e:=qKx w h
 have a:val d≠0:=fun h0=>h2 (by rw [←e,h0,qAk])
 have b:val d≠1:=fun h0=>h1 (by rw [←e,h0,limbs_one])
 omega
theorem dL_dv{d:List Nat}(h:qFu d=true)(w:WF d)(h1:d≠[1]):dL (dv d)=d:=by
 by_cases h2:d=[]
 ·subst h2;rfl
 ·have:=qPc h w h1 h2
  rw [dv,if_neg h2,dL,if_neg (by omega),qKx w h]
structure RatOk (r:R3) (k:Nat):Prop where
 wm:WF r.2.1
 wd:WF r.2.2
 lm:r.2.1.length<k
 ld:r.2.2.length<k
theorem qKc{r:R3}(h:qFe r=true)(wm:WF r.2.1)(wd:WF r.2.2):dv r.2.2≠0∧(iv' r.1 r.2.1).natAbs.Coprime (dv r.2.2):=by
 unfold qFe at h
 simp only [Bool.and_eq_true,Bool.or_eq_true,decide_eq_true_eq,Bool.not_eq_true',decide_eq_false_iff_not] at h
 obtain ⟨⟨⟨h1,h2⟩,h3⟩,h4⟩:=h
 by_cases h0:r.2.2=[]
 ·rw [h0];exact ⟨by decide,by simp [dv]⟩
 ·obtain ⟨h4,h5⟩:=h4.resolve_left h0
  have hm:qFu r.2.1=true:=by unfold qF1 at h1;simp at h1;exact h1.1
  have e:dv r.2.2=val r.2.2:=by rw [dv,if_neg h0]
  have:=qPc h2 wd h3 h0
  refine ⟨by rw [e];omega,?_⟩
  rw [e,iv'_abs,if_pos h1,Nat.Coprime]
  rw [nv_val hm,nv_val h2,←limbs_one] at h5
  exact qKy h5
theorem rq_rv{r:R3}(h:qFe r=true)(wm:WF r.2.1)(wd:WF r.2.2):rq (rv r)=r:=by
 have hp:=qKc h wm wd
 unfold rv
 rw [dif_pos ⟨h,hp.1,hp.2⟩]
 unfold qFe at h
 simp only [Bool.and_eq_true,Bool.or_eq_true,decide_eq_true_eq,Bool.not_eq_true',decide_eq_false_iff_not] at h
 obtain ⟨⟨⟨h1,h2⟩,h3⟩,h4⟩:=h
 obtain ⟨n,m,d⟩:=r
 simp only at *
 have hz:=qOw wm h1
 unfold zD intC at hz
 simp only [D.agg.injEq,List.cons.injEq,D.bool.injEq,and_true] at hz
 obtain ⟨g1,g2⟩:=hz
 have g3:m=qAe (iv' n m).natAbs:=by simpa using g2
 unfold rq
 simp only
 rw [dL_dv h2 wd h3,←g1,←g3]
theorem dL_valid(d:Nat):qFu (dL d)=true:=by
 unfold dL;split
 ·rfl
 ·exact qHd d
theorem wf_dL(d:Nat):WF (dL d):=by
 unfold dL;split
 ·exact WF.nil
 ·exact qAy d
theorem dv_dL{d:Nat}(h:d≠0):dv (dL d)=d:=by
 unfold dL;split
 ·rename_i e;rw [e];rfl
 ·rw [dv,if_neg (mt limbs_eq_nil.1 h),qBw]
theorem dL_ne1(d:Nat):dL d≠[1]:=by
 unfold dL;split
 ·simp
 ·rename_i h;rw [←limbs_one];exact fun e=>h (qKy e)
theorem qMw(q:Rat):qFe (rq q)=true:=by
 unfold qFe rq
 simp only [validI_z,dL_valid,Bool.true_and,Bool.and_eq_true,Bool.or_eq_true,decide_eq_true_eq,Bool.not_eq_true',decide_eq_false_iff_not]
 refine ⟨dL_ne1 _,?_⟩
 by_cases h:q.den=1
 ·left;rw [dL,if_pos h]
 ·right
  have hd:=q.den_nz
  rw [dL,if_neg h,qCa,qCa]
  have hc:Nat.gcd q.num.natAbs q.den=1:=q.reduced
  refine ⟨fun e=>?_,by rw [hc,limbs_one]⟩
  rw [limbs_eq_nil] at e
  rw [e,Nat.gcd_zero_left] at hc
  exact h hc
theorem wf_rq(q:Rat):WF (rq q).2.1∧WF (rq q).2.2:=⟨qAy _,wf_dL _⟩
theorem qAw(q:Rat):rv (rq q)=q:=by
 have hp:=qKc (qMw q) (wf_rq q).1 (wf_rq q).2
 unfold rv
 rw [dif_pos ⟨qMw q,hp.1,hp.2⟩]
 have e1:iv' (rq q).1 (rq q).2.1=q.num:=qNr q.num
 have e2:dv (rq q).2.2=q.den:=dv_dL q.den_nz
 apply Rat.ext
 ·exact e1
 ·exact e2
theorem qOd{r:R3}(h:qFe r=false):rv r=0:=by
 unfold rv
 rw [dif_neg]
 rw [h];simp
theorem qQ0:rq 0=r0:=by
 show (decide ((0:Rat).num<0),qAe (0:Rat).num.natAbs,dL (0:Rat).den)=_
 have a:(0:Rat).num=0:=rfl
 have b:(0:Rat).den=1:=rfl
 rw [a,b]
 simp [qAk,dL]
theorem rq_inj{p q:Rat}(h:rq p=rq q):p=q:=by rw [←qAw p,←qAw q,h]
def okQ(k:Nat)(q:Rat):Prop:=(qAe q.num.natAbs).length<k∧(qAe q.den).length<k
theorem okQ.mono{k l:Nat}{q:Rat}(h:okQ k q)(hl:k≤l):okQ l q:=⟨Nat.lt_of_lt_of_le h.1 hl,Nat.lt_of_lt_of_le h.2 hl⟩
theorem qAx{r:R3}{k:Nat}(h:RatOk r k)(hk:1<k):okQ k (rv r):=by
 cases hv:qFe r with
 |false=>rw [qOd hv];exact ⟨by show (qAe 0).length<k;rw [qAk];simp;omega,by show (qAe 1).length<k;rw [limbs_one];simpa using hk⟩
 |true=>
  have hp:=qKc hv h.wm h.wd
  unfold rv
  rw [dif_pos ⟨hv,hp.1,hp.2⟩]
  refine ⟨Nat.lt_of_le_of_lt (iv'_len h.wm) h.lm,?_⟩
  show (qAe (dv r.2.2)).length<k
  unfold dv
  split
  ·rw [limbs_one];simpa using hk
  ·exact Nat.lt_of_le_of_lt (qA3 (qDa h.wd)) h.ld
end Go.Vw
namespace Go.Proofs.YtejigedigmagdaaGreat
open Go.Vw
attribute [local irreducible] awp awpL awpR
theorem qMf(z:Int)(h:(qAe z.natAbs).length<1000000000000):Ret Tryz.prog 82 [zD z] (·= .int .i64 z.sign):=by
 have:=ref02_Sign _ _ (IntOk.z h);rw [qNr] at this;exact this
theorem qOh(z:Int)(h:(qAe z.natAbs).length<1000000000000):Ret Tryz.prog 123 [zD z] (·=zD (-z)):=by
 have:=ref02_Neg _ _ (IntOk.z h);rw [qNr] at this;exact this
theorem ref02_AddZ(x y:Int)(h:(qAe x.natAbs).length<100000000000)(k:(qAe y.natAbs).length<100000000000):Ret Tryz.prog 72 [zD x,zD y] (·=zD (x+y)):=by
 have:=ref02_Add _ _ _ _ (IntOk.z h) (IntOk.z k);rw [qNr,qNr] at this;exact this
theorem qF3(x y:Int)(h:(qAe x.natAbs).length<10000000000)(k:(qAe y.natAbs).length<10000000000):Ret Tryz.prog 73 [zD x,zD y] (·=zD (x*y)):=by
 have:=ref02_Mul _ _ _ _ (IntOk.z h) (IntOk.z k);rw [qNr,qNr] at this;exact this
theorem qT1(x y:Int)(h:(qAe x.natAbs).length<100000000)(k:(qAe y.natAbs).length<100000000):Ret Tryz.prog 124 [zD x,zD y] (·=u32s (qAe (Int.gcd x y))):=by
 have:=ref02_Gcd _ _ _ _ (IntOk.z h) (IntOk.z k);rw [qNr,qNr] at this;exact this
theorem qLi(x y:Int)(h:(qAe x.natAbs).length<100000000)(k:(qAe y.natAbs).length<100000000)(h0:y≠0):Ret Tryz.prog 125 [zD x,zD y] (·= .tup [zD (x/y),zD (x%y),.bool true]):=by
 have:=ref02_Div _ _ _ _ (IntOk.z h) (IntOk.z k) (by rw [qNr];exact h0);rw [qNr,qNr] at this;exact this
theorem zD_nat(n:Nat):zD (n:Int)= .agg [.bool false,u32s (qAe n)]:=by
 unfold zD intC
 rw [decide_eq_false (by omega),Int.natAbs_natCast]
theorem qM7(l:List Nat)(hl:l.length<10000000000000):Ret Tryz.prog 126 [u32s l] (·= .bool (decide (l=[1]))):=by
 refine qAa tab Tryz.func126 rfl rfl (lblz rfl) (fun w0 F0=>?_)
 repeat' (first|refine wG ?_|refine wS ?_ ?_<;>intro _|refine finG ?_)
 ·rename_i h
  obtain ⟨x,rfl⟩:=List.length_eq_one_iff.1 (show l.length=1 by omega)
  congr 1
  simp;omega
 ·rename_i h
  congr 1
  symm;rw [decide_eq_false_iff_not]
  intro e;subst e;exact h rfl
theorem qMd(r:R3)(h:RatOk r 100000000):Ret Tryz.prog 115 [rD r] (·= .bool (qFe r)):=by
 obtain ⟨n,m,d⟩:=r
 obtain ⟨wm,wd,lm,ld⟩:=h
 simp only at wm wd lm ld
 have hi:=qQ9 n m (by omega)
 have hd:=qMg d (by omega)
 have h1:=qM7 d (by omega)
 have hg:=ref01_Gcd m d lm ld wm wd
 have lg:(qAe (Nat.gcd (nv m) (nv d))).length<10000000000000:=by
  have l1:=qCn wm
  have l2:=qCn wd
  by_cases h0:nv m=0
  ·rw [h0,Nat.gcd_zero_left];omega
  ·have:=qBm (Nat.gcd_le_left (nv d) (Nat.pos_of_ne_zero h0));omega
 have h2:=qM7 _ lg
 unfold qFe
 generalize hvi:qF1 n m=vi at *
 generalize hvd:qFu d=vd at *
 refine qAa tab Tryz.func115 rfl rfl (lblz rfl) (fun w0 F0=>?_)
 repeat' (first|refine wG ?_|refine wC hi ?_|refine wC hd ?_|refine wC h1 ?_|refine wC hg ?_|refine wC h2 ?_|refine wS ?_ ?_<;>intro _|refine finG ?_)
 all_goals
  clear hi hd h1 hg h2
  congr 1
  simp_all
 rename_i hm
 intro _ e;subst e;simp at hm
theorem qB0(r:R3)(h:RatOk r 100000000):Ret Tryz.prog 67 [rD r] (·=rD (rq (rv r))):=by
 have hv:=qMd r h
 have e:=rq_rv (r:=r)
 have e0:=qOd (r:=r)
 have okq:=qAx h (by decide)
 cases hr:qFe r with
 |false=>
  rw [hr] at hv
  rw [e0 hr,qQ0]
  refine qAa tab Tryz.func67 rfl rfl (lblz rfl) (fun w0 F0=>?_)
  repeat' (first|refine wG ?_|refine wC hv ?_|refine rg 3 5 ?_|refine wS ?_ ?_<;>intro _|(show qA5 _ _ _ _ _;first|refine finF true rfl rfl sc ?_|refine finF false rfl rfl sc ?_|refine finC false rfl rfl sc sc ?_|refine finN rfl rfl sc ?_|refine finL true rfl rfl sc rfl (LeR.cons rfl leL LeR.nil) ?_|refine finA true rfl rfl sc ?_|refine finA false rfl rfl sc ?_|refine finE true rfl rfl sc ?_|refine finE false rfl rfl sc ?_))
  exact leL
 |true=>
  rw [hr] at hv
  have e:=e hr h.wm h.wd
  rw [e]
  rw [←e] at hv ⊢
  generalize rv r=q at *
  have ht:=ref02_TakeZ q.num (by have:=okq.1;omega)
  have hd:=qF4 (dL q.den) (by have:=h.ld;rw [←e] at this;have:(dL q.den).length<100000000:=this;omega)
  rw [qDe,dL_valid,if_pos rfl] at hd
  refine qAa tab Tryz.func67 rfl rfl (lblz rfl) (fun w0 F0=>?_)
  repeat' (first|refine wG ?_|refine wC hv ?_|refine wC ht ?_|refine wC hd ?_|refine rg 3 5 ?_|refine wS ?_ ?_<;>intro _|refine finG ?_)
  rfl
theorem qIw(q:Rat)(h:okQ 100000000 q):Ret Tryz.prog 74 [rD (rq q)] (·=zD q.den):=by
 have hd:=qRb q.den (by have:=h.2;omega)
 rw [zD_nat]
 by_cases h1:q.den=1
 ·have e:rq q=(decide (q.num<0),qAe q.num.natAbs,[]):=by rw [rq,h1];rfl
  rw [e,h1,limbs_one]
  refine qAa tab Tryz.func74 rfl rfl (lblz rfl) (fun w0 F0=>?_)
  repeat' (first|refine wG ?_|refine wS ?_ ?_<;>intro _|(show qA5 _ _ _ _ _;first|refine finF true rfl rfl sc ?_|refine finF false rfl rfl sc ?_|refine finC false rfl rfl sc sc ?_|refine finN rfl rfl sc ?_|refine finL true rfl rfl sc rfl (LeR.cons rfl leL LeR.nil) ?_|refine finA true rfl rfl sc ?_|refine finA false rfl rfl sc ?_|refine finE true rfl rfl sc ?_|refine finE false rfl rfl sc ?_))
  exact leL
 ·have e:rq q=(decide (q.num<0),qAe q.num.natAbs,qAe q.den):=by rw [rq,dL,if_neg h1]
  have l0:(qAe q.den).length≠0:=fun e=>q.den_nz (limbs_eq_nil.1 (List.length_eq_zero_iff.1 e))
  rw [e]
  show Ret _ _ [.agg [.bool (decide (q.num<0)),u32s (qAe q.num.natAbs),u32s (qAe q.den)]] _
  refine qAa tab Tryz.func74 rfl rfl (lblz rfl) (fun w0 F0=>?_)
  repeat' (first|refine wG ?_|refine wC hd ?_|refine wS ?_ ?_<;>intro _|(show qA5 _ _ _ _ _;first|refine finF true rfl rfl sc ?_|refine finF false rfl rfl sc ?_|refine finC false rfl rfl sc sc ?_|refine finN rfl rfl sc ?_|refine finL true rfl rfl sc rfl (LeR.cons rfl leL LeR.nil) ?_|refine finA true rfl rfl sc ?_|refine finA false rfl rfl sc ?_|refine finE true rfl rfl sc ?_|refine finE false rfl rfl sc ?_))
  exact leL
theorem qK1(a b:Int)(hb:0<b):rq (Rat.divInt a b)=(decide (a/(Int.gcd a b:Nat)<0),qAe (a/(Int.gcd a b:Nat)).natAbs,dL (b/(Int.gcd a b:Nat)).natAbs):=by
 unfold rq
 rw [Rat.num_divInt,Rat.den_divInt,if_neg (by omega),Int.sign_eq_one_of_pos hb,Int.one_mul,Int.gcd_comm b a]
 have:(b/(Int.gcd a b:Nat)).natAbs=b.natAbs/Int.gcd a b:=by
  obtain ⟨n,rfl⟩:=Int.eq_ofNat_of_zero_le (show 0≤b by omega)
  rw [←Int.natCast_ediv,Int.natAbs_natCast,Int.natAbs_natCast]
 rw [this]
theorem over_pos(a b:Int)(hb:0<b)(la:(qAe a.natAbs).length<100000000)(lb:(qAe b.natAbs).length<100000000):Ret Tryz.prog 71 [zD a,zD b] (·=rD (rq (Rat.divInt a b))):=by
 have hs:=qMf b (by omega)
 rw [Int.sign_eq_one_of_pos hb] at hs
 have hg:=qT1 a b la lb
 have g0:Int.gcd a b≠0:=fun e=>by have:=Int.eq_zero_of_gcd_eq_zero_right e;omega
 have lg:(qAe ((Int.gcd a b:Nat):Int).natAbs).length<100000000:=by
  rw [Int.natAbs_natCast]
  exact qCd (Nat.le_of_dvd (by omega) (Int.gcd_dvd_natAbs_right a b)) lb
 have h1:=qLi a (Int.gcd a b:Nat) la lg (by omega)
 have h2:=qLi b (Int.gcd a b:Nat) lb lg (by omega)
 rw [zD_nat] at h1 h2
 have ho:=qM7 (qAe (b/(Int.gcd a b:Nat)).natAbs) (by
  have:=qBm (m:=(b/(Int.gcd a b:Nat)).natAbs) (n:=b.natAbs) (by
   rw [Int.natAbs_ediv_of_nonneg (by omega)]
   exact Nat.div_le_self _ _)
  omega)
 rw [qK1 a b hb]
 show Ret _ _ _ (·= .agg [.bool (decide (a/(Int.gcd a b:Nat)<0)),u32s (qAe (a/(Int.gcd a b:Nat)).natAbs),u32s (dL (b/(Int.gcd a b:Nat)).natAbs)])
 generalize a/(Int.gcd a b:Nat)=x at *
 generalize b/(Int.gcd a b:Nat)=y at *
 refine qAa tab Tryz.func71 rfl rfl (lblz rfl) (fun w0 F0=>?_)
 repeat' (first|refine wG ?_|refine wC hs ?_|refine wC hg ?_|refine wC h1 ?_|refine wC h2 ?_|refine wC ho ?_|refine rg 2 3 ?_|refine wS ?_ ?_<;>intro _|(show qA5 _ _ _ _ _;first|refine finF true rfl rfl sc ?_|refine finF false rfl rfl sc ?_|refine finC false rfl rfl sc sc ?_|refine finN rfl rfl sc ?_|refine finL true rfl rfl sc rfl (LeR.cons rfl leL LeR.nil) ?_|refine finA true rfl rfl sc ?_|refine finA false rfl rfl sc ?_|refine finE true rfl rfl sc ?_|refine finE false rfl rfl sc ?_))
 ·rename_i e
  rw [show dL y.natAbs=[] by rw [dL,if_pos (qKy (e.trans limbs_one.symm))]]
  exact leL
 ·rename_i e
  rw [show dL y.natAbs=qAe y.natAbs by rw [dL,if_neg (fun h=>e (by rw [h,limbs_one]))]]
  exact leL
theorem over_neg(a b:Int)(hb:b<0)(la:(qAe a.natAbs).length<100000000)(lb:(qAe b.natAbs).length<100000000):Ret Tryz.prog 71 [zD a,zD b] (·=rD (rq (Rat.divInt a b))):=by
 have hs:=qMf b (by omega)
 rw [Int.sign_eq_neg_one_of_neg hb] at hs
 have na:=qOh a (by omega)
 have nb:=qOh b (by omega)
 rw [←Rat.neg_divInt_neg]
 have hb:0< -b:=by omega
 rw [←Int.natAbs_neg] at la lb
 generalize-a=a' at *
 generalize-b=b' at *
 have hg:=qT1 a' b' la lb
 have g0:Int.gcd a' b'≠0:=fun e=>by have:=Int.eq_zero_of_gcd_eq_zero_right e;omega
 have lg:(qAe ((Int.gcd a' b':Nat):Int).natAbs).length<100000000:=by
  rw [Int.natAbs_natCast]
  exact qCd (Nat.le_of_dvd (by omega) (Int.gcd_dvd_natAbs_right a' b')) lb
 have h1:=qLi a' (Int.gcd a' b':Nat) la lg (by omega)
 have h2:=qLi b' (Int.gcd a' b':Nat) lb lg (by omega)
 rw [zD_nat] at h1 h2
 have ho:=qM7 (qAe (b'/(Int.gcd a' b':Nat)).natAbs) (by
  have:=qBm (m:=(b'/(Int.gcd a' b':Nat)).natAbs) (n:=b'.natAbs) (by
   rw [Int.natAbs_ediv_of_nonneg (by omega)]
   exact Nat.div_le_self _ _)
  omega)
 rw [qK1 a' b' hb]
 show Ret _ _ _ (·= .agg [.bool (decide (a'/(Int.gcd a' b':Nat)<0)),u32s (qAe (a'/(Int.gcd a' b':Nat)).natAbs),u32s (dL (b'/(Int.gcd a' b':Nat)).natAbs)])
 generalize a'/(Int.gcd a' b':Nat)=x at *
 generalize b'/(Int.gcd a' b':Nat)=y at *
 refine qAa tab Tryz.func71 rfl rfl (lblz rfl) (fun w0 F0=>?_)
 repeat' (first|refine wG ?_|refine wC hs ?_|refine wC na ?_|refine wC nb ?_|refine wC hg ?_|refine wC h1 ?_|refine wC h2 ?_|refine wC ho ?_|refine rg 2 3 ?_|refine wS ?_ ?_<;>intro _|(show qA5 _ _ _ _ _;first|refine finF true rfl rfl sc ?_|refine finF false rfl rfl sc ?_|refine finC false rfl rfl sc sc ?_|refine finN rfl rfl sc ?_|refine finL true rfl rfl sc rfl (LeR.cons rfl leL LeR.nil) ?_|refine finA true rfl rfl sc ?_|refine finA false rfl rfl sc ?_|refine finE true rfl rfl sc ?_|refine finE false rfl rfl sc ?_))
 ·rename_i e
  rw [show dL y.natAbs=[] by rw [dL,if_pos (qKy (e.trans limbs_one.symm))]]
  exact leL
 ·rename_i e
  rw [show dL y.natAbs=qAe y.natAbs by rw [dL,if_neg (fun h=>e (by rw [h,limbs_one]))]]
  exact leL
theorem qLg(a b:Int)(hb:b≠0)(la:(qAe a.natAbs).length<100000000)(lb:(qAe b.natAbs).length<100000000):Ret Tryz.prog 71 [zD a,zD b] (·=rD (rq (Rat.divInt a b))):=by
 rcases Int.lt_or_gt_of_ne hb with h|h
 ·exact over_neg a b h la lb
 ·exact over_pos a b h la lb
theorem qMe(q:Rat)(h:okQ 100000000 q):Ret Tryz.prog 67 [rD (rq q)] (·=rD (rq q)):=by
 have hd:(dL q.den).length<100000000:=by unfold dL;split;decide;exact h.2
 have:=qB0 (rq q) ⟨(wf_rq q).1,(wf_rq q).2,h.1,hd⟩
 rw [qAw] at this;exact this
theorem qNb(r t:R3)(hr:RatOk r 10000000)(ht:RatOk t 10000000):Ret Tryz.prog 23 [rD r,rD t] (·=rD (rq (rv r+rv t))):=by
 have tr:=qB0 r ⟨hr.wm,hr.wd,by have:=hr.lm;omega,by have:=hr.ld;omega⟩
 have tk:=qB0 t ⟨ht.wm,ht.wd,by have:=ht.lm;omega,by have:=ht.ld;omega⟩
 have or:=qAx hr (by decide)
 have ot:=qAx ht (by decide)
 generalize rv r=x at *
 generalize rv t=y at *
 have dx:=qIw x (or.mono (by decide))
 have dy:=qIw y (ot.mono (by decide))
 obtain ⟨x1,x2⟩:=or
 obtain ⟨y1,y2⟩:=ot
 have m1:=qF3 x.num y.den (by omega) (by rw [Int.natAbs_natCast];omega)
 have m2:=qF3 y.num x.den (by omega) (by rw [Int.natAbs_natCast];omega)
 have m3:=qF3 x.den y.den (by rw [Int.natAbs_natCast];omega) (by rw [Int.natAbs_natCast];omega)
 have l1:=qC8 x.num.natAbs y.den
 have l2:=qC8 y.num.natAbs x.den
 have l3:=qC8 x.den y.den
 simp only [ln] at l1 l2 l3
 have e1:(x.num*(y.den:Int)).natAbs=x.num.natAbs*y.den:=by rw [Int.natAbs_mul,Int.natAbs_natCast]
 have e2:(y.num*(x.den:Int)).natAbs=y.num.natAbs*x.den:=by rw [Int.natAbs_mul,Int.natAbs_natCast]
 have e3:((x.den:Int)*(y.den:Int)).natAbs=x.den*y.den:=by rw [Int.natAbs_mul,Int.natAbs_natCast,Int.natAbs_natCast]
 have a1:=ref02_AddZ (x.num*y.den) (y.num*x.den) (by rw [e1];omega) (by rw [e2];omega)
 have l4:=ln_mono (Int.natAbs_add_le (x.num*y.den) (y.num*x.den))
 have l5:=qUg (x.num*(y.den:Int)).natAbs (y.num*(x.den:Int)).natAbs
 simp only [ln] at l4 l5
 rw [e1,e2] at l4 l5
 have o:=qLg (x.num*y.den+y.num*x.den) (x.den*y.den) (by have:=x.den_nz;have:=y.den_nz;simp;omega) (by omega) (by rw [e3];omega)
 rw [show Rat.divInt (x.num*y.den+y.num*x.den) ((x.den:Int)*y.den)=x+y by rw [Rat.add_def',←Rat.divInt_ofNat];simp] at o
 refine qAa tab Tryz.func23 rfl rfl (lblz rfl) (fun w0 F0=>?_)
 repeat' (first|refine wG ?_|refine wC tr ?_|refine wC tk ?_|refine wC dx ?_|refine wC dy ?_|refine wC m1 ?_|refine wC m2 ?_|refine wC m3 ?_|refine wC a1 ?_|refine wC o ?_|refine rg 1 3 ?_|refine rg 2 14 ?_|refine wS ?_ ?_<;>intro _|refine finG ?_)
 rfl
theorem qM8(r t:R3)(hr:RatOk r 10000000)(ht:RatOk t 10000000):Ret Tryz.prog 24 [rD r,rD t] (·=rD (rq (rv r*rv t))):=by
 have tr:=qB0 r ⟨hr.wm,hr.wd,by have:=hr.lm;omega,by have:=hr.ld;omega⟩
 have tk:=qB0 t ⟨ht.wm,ht.wd,by have:=ht.lm;omega,by have:=ht.ld;omega⟩
 have or:=qAx hr (by decide)
 have ot:=qAx ht (by decide)
 generalize rv r=x at *
 generalize rv t=y at *
 have dx:=qIw x (or.mono (by decide))
 have dy:=qIw y (ot.mono (by decide))
 obtain ⟨x1,x2⟩:=or
 obtain ⟨y1,y2⟩:=ot
 have m1:=qF3 x.num y.num (by omega) (by omega)
 have m3:=qF3 x.den y.den (by rw [Int.natAbs_natCast];omega) (by rw [Int.natAbs_natCast];omega)
 have l1:=qC8 x.num.natAbs y.num.natAbs
 have l3:=qC8 x.den y.den
 simp only [ln] at l1 l3
 have e1:(x.num*y.num).natAbs=x.num.natAbs*y.num.natAbs:=Int.natAbs_mul _ _
 have e3:((x.den:Int)*(y.den:Int)).natAbs=x.den*y.den:=by rw [Int.natAbs_mul,Int.natAbs_natCast,Int.natAbs_natCast]
 have o:=qLg (x.num*y.num) (x.den*y.den) (by have:=x.den_nz;have:=y.den_nz;simp;omega) (by rw [e1];omega) (by rw [e3];omega)
 rw [show Rat.divInt (x.num*y.num) ((x.den:Int)*y.den)=x*y by rw [Rat.mul_def',←Rat.divInt_ofNat];simp] at o
 refine qAa tab Tryz.func24 rfl rfl (lblz rfl) (fun w0 F0=>?_)
 repeat' (first|refine wG ?_|refine wC tr ?_|refine wC tk ?_|refine wC dx ?_|refine wC dy ?_|refine wC m1 ?_|refine wC m3 ?_|refine wC o ?_|refine rg 1 3 ?_|refine rg 2 8 ?_|refine wS ?_ ?_<;>intro _|refine finG ?_)
 rfl
theorem ref03_Quo(r t:R3)(hr:RatOk r 10000000)(ht:RatOk t 10000000)(h0:rv t≠0):Ret Tryz.prog 26 [rD r,rD t] (·=rD (rq (rv r/rv t))):=by
 have tr:=qB0 r ⟨hr.wm,hr.wd,by have:=hr.lm;omega,by have:=hr.ld;omega⟩
 have tk:=qB0 t ⟨ht.wm,ht.wd,by have:=ht.lm;omega,by have:=ht.ld;omega⟩
 have or:=qAx hr (by decide)
 have ot:=qAx ht (by decide)
 generalize rv r=x at *
 generalize rv t=y at *
 have dx:=qIw x (or.mono (by decide))
 have dy:=qIw y (ot.mono (by decide))
 obtain ⟨x1,x2⟩:=or
 obtain ⟨y1,y2⟩:=ot
 have hy:y.num≠0:=mt Rat.num_eq_zero.1 h0
 have m1:=qF3 x.num y.den (by omega) (by rw [Int.natAbs_natCast];omega)
 have m3:=qF3 x.den y.num (by rw [Int.natAbs_natCast];omega) (by omega)
 have l1:=qC8 x.num.natAbs y.den
 have l3:=qC8 x.den y.num.natAbs
 simp only [ln] at l1 l3
 have e1:(x.num*(y.den:Int)).natAbs=x.num.natAbs*y.den:=by rw [Int.natAbs_mul,Int.natAbs_natCast]
 have e3:((x.den:Int)*y.num).natAbs=x.den*y.num.natAbs:=by rw [Int.natAbs_mul,Int.natAbs_natCast]
 have o:=qLg (x.num*y.den) (x.den*y.num) (by have:=x.den_nz;exact Int.mul_ne_zero (by omega) hy) (by rw [e1];omega) (by rw [e3];omega)
 rw [show Rat.divInt (x.num*y.den) ((x.den:Int)*y.num)=x/y by
  rw [Rat.div_def]
  conv=>rhs;rw [←Rat.num_divInt_den x,←Rat.num_divInt_den y]
  rw [Rat.inv_divInt,Rat.divInt_mul_divInt]] at o
 refine qAa tab Tryz.func26 rfl rfl (lblz rfl) (fun w0 F0=>?_)
 repeat' (first|refine wG ?_|refine wC tr ?_|refine wC tk ?_|refine wC dx ?_|refine wC dy ?_|refine wC m1 ?_|refine wC m3 ?_|refine wC o ?_|refine rg 1 3 ?_|refine rg 2 9 ?_|refine wS ?_ ?_<;>intro _|refine finG ?_)
 rfl
theorem ref03_Sign(r:R3)(hr:RatOk r 10000000):Ret Tryz.prog 32 [rD r] (·= .int .i64 (rv r).num.sign):=by
 have tr:=qB0 r ⟨hr.wm,hr.wd,by have:=hr.lm;omega,by have:=hr.ld;omega⟩
 have or:=qAx hr (by decide)
 generalize rv r=x at *
 have hs:=qMf x.num (by have:=or.1;omega)
 refine qAa tab Tryz.func32 rfl rfl (lblz rfl) (fun w0 F0=>?_)
 repeat' (first|refine wG ?_|refine wC tr ?_|refine wC hs ?_|refine wS ?_ ?_<;>intro _|refine finG ?_)
 rfl
theorem qQ8(r:R3)(hr:RatOk r 10000000):Ret Tryz.prog 81 [rD r] (·=rD (rq (-rv r))):=by
 have tr:=qB0 r ⟨hr.wm,hr.wd,by have:=hr.lm;omega,by have:=hr.ld;omega⟩
 have or:=qAx hr (by decide)
 generalize rv r=x at *
 have hs:=qOh x.num (by have:=or.1;omega)
 have e:rq (-x)=(decide (-x.num<0),qAe (-x.num).natAbs,dL x.den):=rfl
 rw [e]
 refine qAa tab Tryz.func81 rfl rfl (lblz rfl) (fun w0 F0=>?_)
 repeat' (first|refine wG ?_|refine wC tr ?_|refine wC hs ?_|refine rg 2 5 ?_|refine wS ?_ ?_<;>intro _|refine finG ?_)
 rfl
theorem qAs{q:Rat}{k:Nat}(h:okQ k q):RatOk (rq q) k:=by
 refine ⟨(wf_rq q).1,(wf_rq q).2,h.1,?_⟩
 show (dL q.den).length<k
 unfold dL;split
 ·exact Nat.lt_of_le_of_lt (Nat.zero_le _) h.1
 ·exact h.2
theorem qLh(x y:Rat)(hx:okQ 10000000 x)(hy:okQ 10000000 y):Ret Tryz.prog 23 [rD (rq x),rD (rq y)] (·=rD (rq (x+y))):=by
 have:=qNb (rq x) (rq y) (qAs hx) (qAs hy)
 rw [qAw,qAw] at this;exact this
theorem qG6(x y:Rat)(hx:okQ 10000000 x)(hy:okQ 10000000 y):Ret Tryz.prog 24 [rD (rq x),rD (rq y)] (·=rD (rq (x*y))):=by
 have:=qM8 (rq x) (rq y) (qAs hx) (qAs hy)
 rw [qAw,qAw] at this;exact this
theorem qD9(x:Rat)(hx:okQ 10000000 x):Ret Tryz.prog 32 [rD (rq x)] (·= .int .i64 x.num.sign):=by
 have:=ref03_Sign (rq x) (qAs hx)
 rw [qAw] at this;exact this
theorem qG5(x y:Rat)(hx:okQ 10000000 x)(hy:okQ 10000000 y)(h0:y≠0):Ret Tryz.prog 26 [rD (rq x),rD (rq y)] (·=rD (rq (x/y))):=by
 have:=ref03_Quo (rq x) (rq y) (qAs hx) (qAs hy) (by rw [qAw];exact h0)
 rw [qAw,qAw] at this;exact this
theorem qKl:Ret Tryz.prog 139 [] (·=u32s [1]):=by
 refine qAa tab Tryz.func139 rfl rfl (lblz rfl) (fun w0 F0=>?_)
 repeat' (first|refine wG ?_|refine wS ?_ ?_<;>intro _|refine finG ?_)
 rfl
theorem nv_one:nv [1]=1:=by decide
theorem qFi(d:List Nat)(wd:WF d)(hl:d.length<10000000000):Ret Tryz.prog 145 [u32s d,u32s [1]] (·= .int .i64 (cmpN (nv d) 1)):=by
 have:=qHj d [1] wd (by intro x hx;simp at hx;subst hx;decide) hl (by decide)
 rw [nv_one] at this
 exact this
theorem qS3(r:R3)(h:RatOk r 100000000):Ret Tryz.prog 136 [rD r] (·= .bool (qFe r)):=by
 obtain ⟨n,m,d⟩:=r
 obtain ⟨wm,wd,lm,ld⟩:=h
 simp only at wm wd lm ld
 have hi:=qNt n m (by omega)
 have hd:=qJi d (by omega)
 have h1:=qKl
 have hc:=qFi d wd (by omega)
 unfold qFe
 cases hvi:qF1 n m with
 |false=>
  rw [hvi] at hi
  refine qAa tab Tryz.func136 rfl rfl (lblz rfl) (fun w0 F0=>?_)
  repeat' (first|refine wG ?_|refine wC hi ?_|refine rg 5 9 ?_|refine wS ?_ ?_<;>intro _|refine finG ?_)
  rfl
 |true=>
  rw [hvi] at hi
  cases hvd:qFu d with
  |false=>
   rw [hvd] at hd
   refine qAa tab Tryz.func136 rfl rfl (lblz rfl) (fun w0 F0=>?_)
   repeat' (first|refine wG ?_|refine wC hi ?_|refine wC hd ?_|refine rg 5 9 ?_|refine wS ?_ ?_<;>intro _|refine finG ?_)
   rfl
  |true=>
   rw [hvd] at hd
   have hm:qFu m=true:=by unfold qF1 at hvi;simp at hvi;exact hvi.1
   have em:=limbs_nv wm hm
   have ed:=limbs_nv wd hvd
   have hg:=qPk (nv m) (nv d) (by rw [em];exact lm) (by rw [ed];exact ld)
   have lg:(qAe (Nat.gcd (nv m) (nv d))).length<10000000000:=by
    by_cases h0:nv m=0
    ·rw [h0,Nat.gcd_zero_left,ed];omega
    ·have:=qBm (Nat.gcd_le_left (nv d) (Nat.pos_of_ne_zero h0));rw [em] at this;omega
   have hc2:=qFi (qAe (Nat.gcd (nv m) (nv d))) (qAy _) lg
   rw [qCa] at hc2
   rw [em,ed] at hg
   have z1:=qSm (nv d) 1
   have z2:=qSm (Nat.gcd (nv m) (nv d)) 1
   have e1:d=[1]↔nv d=1:=⟨fun e=>by rw [e];exact nv_one,fun e=>by rw [←ed,e,limbs_one]⟩
   have e2:qAe (Nat.gcd (nv m) (nv d))=[1]↔Nat.gcd (nv m) (nv d)=1:=⟨fun e=>qKy (e.trans limbs_one.symm),fun e=>by rw [e,limbs_one]⟩
   have e3:d=[]↔d.length=0:=List.length_eq_zero_iff.symm
   have e4:m=[]↔m.length=0:=List.length_eq_zero_iff.symm
   rw [show decide (d=[1])=decide (cmpN (nv d) 1=0) from decide_eq_decide.2 (e1.trans z1.symm),show decide (d=[])=decide (d.length=0) from decide_eq_decide.2 e3,show decide (qAe (Nat.gcd (nv m) (nv d))=[1])=decide (cmpN (Nat.gcd (nv m) (nv d)) 1=0) from decide_eq_decide.2 (e2.trans z2.symm),show decide (m≠[])=decide (m.length≠0) from decide_eq_decide.2 (not_congr e4)]
   have e5:d.length=0->cmpN (nv d) 1≠0:=fun h=>by
    have:nv d=0:=by rw [e3.2 h];rfl
    rw [ne_eq,z1];omega
   clear e1 e2 e3 e4 em ed z1 z2
   generalize cmpN (nv d) 1=c1 at *
   generalize cmpN (Nat.gcd (nv m) (nv d)) 1=c2 at *
   refine qAa tab Tryz.func136 rfl rfl (lblz rfl) (fun w0 F0=>?_)
   repeat' (first|refine wG ?_|refine wC hi ?_|refine wC hd ?_|refine wC h1 ?_|refine wC hc ?_|refine wC hg ?_|refine wC hc2 ?_|refine rg 5 9 ?_|refine wS ?_ ?_<;>intro _|refine finG ?_)
   ·rename_i x
    have x:d.length=0:=Int.ofNat_eq_zero.1 x
    simp [x,e5 x]
   ·rename_i x y
    have x:=mt Int.ofNat_eq_zero.2 x
    have y:=Int.ofNat_eq_zero.1 y
    simp [show ¬d.length=0 from x,show m.length=0 from y]
   ·rename_i x y z
    simp [z]
   ·rename_i x y z
    have x:=mt Int.ofNat_eq_zero.2 x
    have y:=mt Int.ofNat_eq_zero.2 y
    simp [show ¬d.length=0 from x,show ¬m.length=0 from y,z]
theorem qB6(r:R3)(h:RatOk r 100000000):Ret Tryz.prog 86 [rD r] (·=rD (rq (rv r))):=by
 have hv:=qS3 r h
 have e:=rq_rv (r:=r)
 have e0:=qOd (r:=r)
 cases hr:qFe r with
 |false=>
  rw [hr] at hv
  rw [e0 hr,qQ0]
  refine qAa tab Tryz.func86 rfl rfl (lblz rfl) (fun w0 F0=>?_)
  repeat' (first|refine wG ?_|refine wC hv ?_|refine wS ?_ ?_<;>intro _|(show qA5 _ _ _ _ _;first|refine finF true rfl rfl sc ?_|refine finF false rfl rfl sc ?_|refine finC false rfl rfl sc sc ?_|refine finN rfl rfl sc ?_|refine finL true rfl rfl sc rfl (LeR.cons rfl leL LeR.nil) ?_|refine finA true rfl rfl sc ?_|refine finA false rfl rfl sc ?_|refine finE true rfl rfl sc ?_|refine finE false rfl rfl sc ?_))
  exact leL
 |true=>
  rw [hr] at hv
  rw [e hr h.wm h.wd]
  refine qAa tab Tryz.func86 rfl rfl (lblz rfl) (fun w0 F0=>?_)
  repeat' (first|refine wG ?_|refine wC hv ?_|refine wS ?_ ?_<;>intro _|refine finG ?_)
  rfl
theorem qDh(q:Rat)(h:okQ 100000000 q):Ret Tryz.prog 91 [rD (rq q)] (·=u32s (qAe q.den)):=by
 have h1:=qKl
 by_cases hq:q.den=1
 ·have e:rq q=(decide (q.num<0),qAe q.num.natAbs,[]):=by rw [rq,hq];rfl
  rw [e,hq,limbs_one]
  refine qAa tab Tryz.func91 rfl rfl (lblz rfl) (fun w0 F0=>?_)
  repeat' (first|refine wG ?_|refine wC h1 ?_|refine wS ?_ ?_<;>intro _|refine finG ?_)
  rfl
 ·have e:rq q=(decide (q.num<0),qAe q.num.natAbs,qAe q.den):=by rw [rq,dL,if_neg hq]
  have l0:(qAe q.den).length≠0:=fun e=>q.den_nz (limbs_eq_nil.1 (List.length_eq_zero_iff.1 e))
  rw [e]
  show Ret _ _ [.agg [.bool (decide (q.num<0)),u32s (qAe q.num.natAbs),u32s (qAe q.den)]] _
  refine qAa tab Tryz.func91 rfl rfl (lblz rfl) (fun w0 F0=>?_)
  repeat' (first|refine wG ?_|refine wS ?_ ?_<;>intro _|refine finG ?_)
  rfl
theorem lowest_parts(z:Int)(d:Nat)(hd:d≠0):rq (Rat.divInt z d)=(decide (z<0),qAe (z.natAbs/Nat.gcd z.natAbs d),dL (d/Nat.gcd z.natAbs d)):=by
 have hg:0<Nat.gcd z.natAbs d:=Nat.gcd_pos_of_pos_right _ (by omega)
 rw [qK1 z d (by omega)]
 have e1:(Int.gcd z d:Nat)=Nat.gcd z.natAbs d:=by unfold Int.gcd;rw [Int.natAbs_natCast]
 rw [e1]
 generalize hgg:Nat.gcd z.natAbs d=g at *
 have hdv:(g:Int)∣z:=by rw [←Int.natAbs_dvd_natAbs,Int.natAbs_natCast,←hgg];exact Nat.gcd_dvd_left _ _
 obtain ⟨k,rfl⟩:=hdv
 have hgi:(0:Int)<g:=by omega
 rw [Int.mul_ediv_cancel_left _ (by omega),Int.natAbs_mul,Int.natAbs_natCast,Nat.mul_div_cancel_left _ hg]
 have e2:((d:Int)/(g:Int)).natAbs=d/g:=by rw [←Int.natCast_ediv,Int.natAbs_natCast]
 rw [e2]
 congr 1
 refine decide_eq_decide.2 ?_
 constructor
 ·intro h;exact Int.mul_neg_of_pos_of_neg hgi h
 ·intro h
  exact Classical.byContradiction fun hn=>by
   have:=Int.mul_nonneg (Int.le_of_lt hgi) (show 0≤k by omega)
   omega
theorem qFf(z:Int)(d:Nat)(hd:d≠0)(lz:(qAe z.natAbs).length<100000000)(ld:(qAe d).length<100000000):Ret Tryz.prog 94 [zD z,u32s (qAe d)] (·=rD (rq (Rat.divInt z d))):=by
 have h1:=qKl
 have hgp:0<Nat.gcd z.natAbs d:=Nat.gcd_pos_of_pos_right _ (by omega)
 have hg:=qPk z.natAbs d lz ld
 have hgl:=qCd (Nat.le_of_dvd (by omega) (Nat.gcd_dvd_right z.natAbs d)) ld
 rw [lowest_parts z d hd]
 show Ret _ _ _ (·= .agg [.bool (decide (z<0)),u32s (qAe (z.natAbs/Nat.gcd z.natAbs d)),u32s (dL (d/Nat.gcd z.natAbs d))])
 have h2:=qKu z.natAbs (Nat.gcd z.natAbs d) (by omega) (by omega) (by omega)
 have h3:=qKu d (Nat.gcd z.natAbs d) (by omega) (by omega) (by omega)
 have hq:=qCd (Nat.div_le_self d (Nat.gcd z.natAbs d)) ld
 have hc:=qFi (qAe (d/Nat.gcd z.natAbs d)) (qAy _) (by omega)
 rw [qCa] at hc
 have hz:=qSm (d/Nat.gcd z.natAbs d) 1
 clear hgp
 generalize z.natAbs/Nat.gcd z.natAbs d=p at *
 generalize d/Nat.gcd z.natAbs d=q at *
 generalize Nat.gcd z.natAbs d=g at *
 unfold dL
 by_cases hq1:q=1
 ·rw [if_pos hq1]
  rw [hz.2 hq1] at hc
  refine qAa tab Tryz.func94 rfl rfl (lblz rfl) (fun w0 F0=>?_)
  repeat' (first|refine wG ?_|refine wC h1 ?_|refine wC hg ?_|refine wC h2 ?_|refine wC h3 ?_|refine wC hc ?_|refine wS ?_ ?_<;>intro _|(show qA5 _ _ _ _ _;first|refine finF true rfl rfl sc ?_|refine finF false rfl rfl sc ?_|refine finC false rfl rfl sc sc ?_|refine finN rfl rfl sc ?_|refine finL true rfl rfl sc rfl (LeR.cons rfl leL LeR.nil) ?_|refine finA true rfl rfl sc ?_|refine finA false rfl rfl sc ?_|refine finE true rfl rfl sc ?_|refine finE false rfl rfl sc ?_))
  exact leL
 ·rw [if_neg hq1]
  have hcz:=mt hz.1 hq1
  generalize cmpN q 1=c at *
  refine qAa tab Tryz.func94 rfl rfl (lblz rfl) (fun w0 F0=>?_)
  repeat' (first|refine wG ?_|refine wC h1 ?_|refine wC hg ?_|refine wC h2 ?_|refine wC h3 ?_|refine wC hc ?_|refine wS ?_ ?_<;>intro _|refine finG ?_)
  rfl
end Go.Proofs.YtejigedigmagdaaGreat
namespace Go.Vw
theorem RatOk.up{r:R3}{k l:Nat}(h:RatOk r k)(hl:k≤l):RatOk r l:=⟨h.wm,h.wd,Nat.lt_of_lt_of_le h.lm hl,Nat.lt_of_lt_of_le h.ld hl⟩
def cmpQ(x y:Rat):Int:=if x<y then-1 else if y<x then 1 else 0
theorem cmpQ_eq(x y:Rat):cmpQ x y=if x.num*y.den<y.num*x.den then-1 else if y.num*x.den<x.num*y.den then 1 else 0:=by
 unfold cmpQ
 simp only [Rat.lt_iff]
theorem okQ.dl{q:Rat}{k:Nat}(h:okQ k q):(dL q.den).length<k:=by
 unfold dL;split
 ·exact Nat.lt_of_le_of_lt (Nat.zero_le _) h.1
 ·exact h.2
theorem dL_nil{d:Nat}(h0:d≠0):(dL d).length=0↔d=1:=by
 unfold dL
 split
 ·rename_i h;simp [h]
 ·rename_i h
  simp only [h,iff_false]
  exact fun e=>h0 (limbs_eq_nil.1 (List.length_eq_zero_iff.1 e))
theorem qLl{x:Rat}(h:x.den=1):x=(x.num:Rat):=by
 apply Rat.ext
 ·rfl
 ·rw [h];rfl
theorem divInt_abs(a b:Int):Rat.divInt (if b<0 then-a else a) (b.natAbs:Int)=Rat.divInt a b:=by
 split
 ·rename_i h
  rw [←Rat.neg_divInt_neg,Int.neg_neg]
  congr 1;omega
 ·congr 1;omega
theorem qUt(x y:Rat):Rat.divInt (x.num*y.den) (y.num*x.den)=x/y:=by
 rw [Rat.div_def]
 conv=>rhs;rw [←Rat.num_divInt_den x,←Rat.num_divInt_den y]
 rw [Rat.inv_divInt,Rat.divInt_mul_divInt,Int.mul_comm y.num]
end Go.Vw
namespace Go.Proofs.YtejigedigmagdaaGreat
open Go.Vw
attribute [local irreducible] awp awpL awpR
theorem qD0(z:Int)(n:Nat)(hz:(qAe z.natAbs).length<100000000)(hn:(qAe n).length<100000000):Ret Tryz.prog 90 [zD z,u32s (qAe n)] (·=zD (z*n)):=by
 have hm:=qPo z n (by omega) (by rw [Int.natAbs_natCast];omega)
 rw [zD_nat] at hm
 refine qAa tab Tryz.func90 rfl rfl (lblz rfl) (fun w0 F0=>?_)
 repeat' (first|refine wG ?_|refine wC hm ?_|refine wS ?_ ?_<;>intro _|(show qA5 _ _ _ _ _;first|refine finF true rfl rfl sc ?_|refine finF false rfl rfl sc ?_|refine finC false rfl rfl sc sc ?_|refine finN rfl rfl sc ?_|refine finL true rfl rfl sc rfl (LeR.cons rfl leL LeR.nil) ?_|refine finA true rfl rfl sc ?_|refine finA false rfl rfl sc ?_|refine finE true rfl rfl sc ?_|refine finE false rfl rfl sc ?_))
 exact leL
theorem qDu(r t:R3)(hr:RatOk r 10000000)(ht:RatOk t 10000000):Ret Tryz.prog 109 [rD r,rD t] (·= .int .i64 (cmpQ (rv r) (rv t))):=by
 have tr:=qB6 r (hr.up (by decide))
 have tk:=qB6 t (ht.up (by decide))
 have or:=qAx hr (by decide)
 have ot:=qAx ht (by decide)
 generalize rv r=x at *
 generalize rv t=y at *
 have dx:=qDh x (or.mono (by decide))
 have dy:=qDh y (ot.mono (by decide))
 obtain ⟨x1,x2⟩:=or
 obtain ⟨y1,y2⟩:=ot
 have m1:=qD0 x.num y.den (by omega) (by omega)
 have m2:=qD0 y.num x.den (by omega) (by omega)
 have l1:=qC8 x.num.natAbs y.den
 have l2:=qC8 y.num.natAbs x.den
 simp only [ln] at l1 l2
 have e1:(x.num*(y.den:Int)).natAbs=x.num.natAbs*y.den:=by rw [Int.natAbs_mul,Int.natAbs_natCast]
 have e2:(y.num*(x.den:Int)).natAbs=y.num.natAbs*x.den:=by rw [Int.natAbs_mul,Int.natAbs_natCast]
 have hc:=qP4 (x.num*y.den) (y.num*x.den) (by rw [e1];omega) (by rw [e2];omega)
 rw [cmpQ_eq]
 refine qAa tab Tryz.func109 rfl rfl (lblz rfl) (fun w0 F0=>?_)
 repeat' (first|refine wG ?_|refine wC tr ?_|refine wC tk ?_|refine wC dx ?_|refine wC dy ?_|refine wC m1 ?_|refine wC m2 ?_|refine wC hc ?_|refine rg 1 3 ?_|refine rg 2 9 ?_|refine wS ?_ ?_<;>intro _|refine finG ?_)
 rfl
theorem qNc(r:R3)(hr:RatOk r 10000000):Ret Tryz.prog 38 [rD r] (·= .int .i64 (rv r).num.sign):=by
 have tr:=qB6 r (hr.up (by decide))
 have or:=qAx hr (by decide)
 generalize rv r=x at *
 have hs:=qG2 x.num (by have:=or.1;omega)
 refine qAa tab Tryz.func38 rfl rfl (lblz rfl) (fun w0 F0=>?_)
 repeat' (first|refine wG ?_|refine wC tr ?_|refine wC hs ?_|refine wS ?_ ?_<;>intro _|refine finG ?_)
 rfl
theorem natural_copyD(d:Nat)(h:(dL d).length<100000000):Ret Tryz.prog 140 [u32s (dL d),u32s []] (·=u32s (dL d)):=by
 unfold dL at *
 split
 ·have:=qEb 0 0 (by rw [qAk];simp) (by rw [qAk];simp)
  rw [Nat.add_zero,qAk] at this
  exact this
 ·rename_i h1
  rw [if_neg h1] at h
  have:=qEb d 0 (by omega) (by rw [qAk];simp)
  rw [Nat.add_zero,qAk] at this
  exact this
theorem qH0(r:R3)(hr:RatOk r 10000000):Ret Tryz.prog 92 [rD r] (·=rD (rq (-rv r))):=by
 have tr:=qB6 r (hr.up (by decide))
 have or:=qAx hr (by decide)
 generalize rv r=x at *
 have hs:=qPn x.num (by have:=or.1;omega)
 have hd:=natural_copyD x.den (by have:=or.dl;omega)
 have e:rq (-x)=(decide (-x.num<0),qAe (-x.num).natAbs,dL x.den):=rfl
 rw [e]
 refine qAa tab Tryz.func92 rfl rfl (lblz rfl) (fun w0 F0=>?_)
 repeat' (first|refine wG ?_|refine wC tr ?_|refine wC hs ?_|refine wC hd ?_|refine rg 2 5 ?_|refine wS ?_ ?_<;>intro _|refine finG ?_)
 rfl
theorem qC2(r t:R3)(hr:RatOk r 10000000)(ht:RatOk t 10000000):Ret Tryz.prog 44 [rD r,rD t] (·=rD (rq (rv r+rv t))):=by
 have tr:=qB6 r (hr.up (by decide))
 have tk:=qB6 t (ht.up (by decide))
 have or:=qAx hr (by decide)
 have ot:=qAx ht (by decide)
 generalize rv r=x at *
 generalize rv t=y at *
 have dx:=qDh x (or.mono (by decide))
 have dy:=qDh y (ot.mono (by decide))
 have nx:=dL_nil x.den_nz
 have ny:=dL_nil y.den_nz
 obtain ⟨x1,x2⟩:=or
 obtain ⟨y1,y2⟩:=ot
 by_cases hh:x.den=1∧y.den=1
 ·have a0:=qH6 x.num y.num (by omega) (by omega)
  have e:rq (x+y)=(decide (x.num+y.num<0),qAe (x.num+y.num).natAbs,[]):=by
   have hx:x=(x.num:Rat):=qLl hh.1
   have hy:y=(y.num:Rat):=qLl hh.2
   have hs:x+y=((x.num+y.num:Int):Rat):=by
    conv=>lhs;rw [hx,hy]
    rw [Rat.intCast_add]
   rw [hs];rfl
  have ex:rq x=(decide (x.num<0),qAe x.num.natAbs,[]):=by rw [rq,hh.1];rfl
  have ey:rq y=(decide (y.num<0),qAe y.num.natAbs,[]):=by rw [rq,hh.2];rfl
  rw [ex] at tr
  rw [ey] at tk
  rw [e]
  refine qAa tab Tryz.func44 rfl rfl (lblz rfl) (fun w0 F0=>?_)
  repeat' (first|refine wG ?_|refine wC tr ?_|refine wC tk ?_|refine wC a0 ?_|refine rg 1 3 ?_|refine rg 4 14 ?_|refine wS ?_ ?_<;>intro _|(show qA5 _ _ _ _ _;first|refine finF true rfl rfl sc ?_|refine finF false rfl rfl sc ?_|refine finC false rfl rfl sc sc ?_|refine finN rfl rfl sc ?_|refine finL true rfl rfl sc rfl (LeR.cons rfl leL LeR.nil) ?_|refine finA true rfl rfl sc ?_|refine finA false rfl rfl sc ?_|refine finE true rfl rfl sc ?_|refine finE false rfl rfl sc ?_))
  exact leL
 ·have m1:=qD0 x.num y.den (by omega) (by omega)
  have m2:=qD0 y.num x.den (by omega) (by omega)
  have m3:=qKt x.den y.den (by omega) (by omega)
  have l1:=qC8 x.num.natAbs y.den
  have l2:=qC8 y.num.natAbs x.den
  have l3:=qC8 x.den y.den
  simp only [ln] at l1 l2 l3
  have e1:(x.num*(y.den:Int)).natAbs=x.num.natAbs*y.den:=by rw [Int.natAbs_mul,Int.natAbs_natCast]
  have e2:(y.num*(x.den:Int)).natAbs=y.num.natAbs*x.den:=by rw [Int.natAbs_mul,Int.natAbs_natCast]
  have a1:=qH6 (x.num*y.den) (y.num*x.den) (by rw [e1];omega) (by rw [e2];omega)
  have l4:=ln_mono (Int.natAbs_add_le (x.num*y.den) (y.num*x.den))
  have l5:=qUg (x.num*(y.den:Int)).natAbs (y.num*(x.den:Int)).natAbs
  simp only [ln] at l4 l5
  rw [e1,e2] at l4 l5
  have o:=qFf (x.num*y.den+y.num*x.den) (x.den*y.den) (Nat.mul_ne_zero x.den_nz y.den_nz) (by omega) (by omega)
  rw [show Rat.divInt (x.num*y.den+y.num*x.den) ((x.den*y.den:Nat):Int)=x+y by rw [Rat.add_def',←Rat.divInt_ofNat]] at o
  have hl:(rq x).2.2.length≠0∨(rq y).2.2.length≠0:=by show (dL x.den).length≠0∨(dL y.den).length≠0;rw [ne_eq,nx,ne_eq,ny];omega
  clear l1 l2 l3 l4 l5 e1 e2
  refine qAa tab Tryz.func44 rfl rfl (lblz rfl) (fun w0 F0=>?_)
  repeat' (first|refine wG ?_|refine wC tr ?_|refine wC tk ?_|refine wC dx ?_|refine wC dy ?_|refine wC m1 ?_|refine wC m2 ?_|refine wC m3 ?_|refine wC a1 ?_|refine wC o ?_|refine rg 1 3 ?_|refine rg 4 14 ?_|refine wS ?_ ?_<;>intro _|refine finG ?_)
  all_goals rfl
theorem qGg(r t:R3)(hr:RatOk r 10000000)(ht:RatOk t 10000000):Ret Tryz.prog 45 [rD r,rD t] (·=rD (rq (rv r*rv t))):=by
 have tr:=qB6 r (hr.up (by decide))
 have tk:=qB6 t (ht.up (by decide))
 have or:=qAx hr (by decide)
 have ot:=qAx ht (by decide)
 generalize rv r=x at *
 generalize rv t=y at *
 have dx:=qDh x (or.mono (by decide))
 have dy:=qDh y (ot.mono (by decide))
 have nx:=dL_nil x.den_nz
 have ny:=dL_nil y.den_nz
 obtain ⟨x1,x2⟩:=or
 obtain ⟨y1,y2⟩:=ot
 have a0:=qPo x.num y.num (by omega) (by omega)
 by_cases hh:x.den=1∧y.den=1
 ·have e:rq (x*y)=(decide (x.num*y.num<0),qAe (x.num*y.num).natAbs,[]):=by
   have hx:x=(x.num:Rat):=qLl hh.1
   have hy:y=(y.num:Rat):=qLl hh.2
   have hs:x*y=((x.num*y.num:Int):Rat):=by
    conv=>lhs;rw [hx,hy]
    rw [Rat.intCast_mul]
   rw [hs];rfl
  have ex:rq x=(decide (x.num<0),qAe x.num.natAbs,[]):=by rw [rq,hh.1];rfl
  have ey:rq y=(decide (y.num<0),qAe y.num.natAbs,[]):=by rw [rq,hh.2];rfl
  rw [ex] at tr
  rw [ey] at tk
  rw [e]
  refine qAa tab Tryz.func45 rfl rfl (lblz rfl) (fun w0 F0=>?_)
  repeat' (first|refine wG ?_|refine wC tr ?_|refine wC tk ?_|refine wC a0 ?_|refine rg 1 3 ?_|refine rg 4 8 ?_|refine wS ?_ ?_<;>intro _|(show qA5 _ _ _ _ _;first|refine finF true rfl rfl sc ?_|refine finF false rfl rfl sc ?_|refine finC false rfl rfl sc sc ?_|refine finN rfl rfl sc ?_|refine finL true rfl rfl sc rfl (LeR.cons rfl leL LeR.nil) ?_|refine finA true rfl rfl sc ?_|refine finA false rfl rfl sc ?_|refine finE true rfl rfl sc ?_|refine finE false rfl rfl sc ?_))
  exact leL
 ·have m3:=qKt x.den y.den (by omega) (by omega)
  have l1:=qC8 x.num.natAbs y.num.natAbs
  have l3:=qC8 x.den y.den
  simp only [ln] at l1 l3
  have e1:(x.num*y.num).natAbs=x.num.natAbs*y.num.natAbs:=Int.natAbs_mul _ _
  have o:=qFf (x.num*y.num) (x.den*y.den) (Nat.mul_ne_zero x.den_nz y.den_nz) (by rw [e1];omega) (by omega)
  rw [show Rat.divInt (x.num*y.num) ((x.den*y.den:Nat):Int)=x*y by rw [Rat.mul_def',←Rat.divInt_ofNat]] at o
  have hl:(rq x).2.2.length≠0∨(rq y).2.2.length≠0:=by show (dL x.den).length≠0∨(dL y.den).length≠0;rw [ne_eq,nx,ne_eq,ny];omega
  clear l1 l3 e1
  refine qAa tab Tryz.func45 rfl rfl (lblz rfl) (fun w0 F0=>?_)
  repeat' (first|refine wG ?_|refine wC tr ?_|refine wC tk ?_|refine wC dx ?_|refine wC dy ?_|refine wC m3 ?_|refine wC a0 ?_|refine wC o ?_|refine rg 1 3 ?_|refine rg 4 8 ?_|refine wS ?_ ?_<;>intro _|refine finG ?_)
  all_goals rfl
theorem qKm(r t:R3)(hr:RatOk r 10000000)(ht:RatOk t 10000000):Ret Tryz.prog 43 [rD r,rD t] (·=rD (rq (rv r-rv t))):=by
 have hn:=qH0 t ht
 have or:=qAx ht (by decide)
 have on:okQ 10000000 (-rv t):=⟨by rw [Rat.neg_num,Int.natAbs_neg];exact or.1,by rw [Rat.neg_den];exact or.2⟩
 have ha:=qC2 r (rq (-rv t)) hr (qAs on)
 rw [qAw,←Rat.sub_eq_add_neg] at ha
 refine qAa tab Tryz.func43 rfl rfl (lblz rfl) (fun w0 F0=>?_)
 repeat' (first|refine wG ?_|refine wC hn ?_|refine wC ha ?_|refine rg 1 3 ?_|refine wS ?_ ?_<;>intro _|refine finG ?_)
 rfl
theorem rational_Make(a b:Int)(ha:(qAe a.natAbs).length<100000000)(hb:(qAe b.natAbs).length<100000000):Ret Tryz.prog 89 [zD a,zD b] (·=if b=0 then .tup [rD r0,.int .i64 5] else .tup [rD (rq (Rat.divInt a b)),.int .i64 0]):=by
 have hs:=qG2 b (by omega)
 by_cases h0:b=0
 ·rw [if_pos h0]
  rw [h0] at hs ⊢
  have:(0:Int).sign=0:=rfl
  rw [this] at hs
  refine qAa tab Tryz.func89 rfl rfl (lblz rfl) (fun w0 F0=>?_)
  repeat' (first|refine wG ?_|refine wC hs ?_|refine rg 5 5 ?_|refine wS ?_ ?_<;>intro _|refine qFx ?_)
  exact leT
 ·rw [if_neg h0]
  have hab:=divInt_abs a b
  by_cases hn:b<0
  ·rw [if_pos hn] at hab
   rw [Int.sign_eq_neg_one_of_neg hn] at hs
   have hne:=qPn a (by omega)
   have had:=qH6 (-a) 0 (by rw [Int.natAbs_neg];omega) (by show (qAe 0).length<_;rw [qAk];simp)
   rw [qU8,Int.add_zero] at had
   have hlo:=qFf (-a) b.natAbs (by omega) (by rw [Int.natAbs_neg];exact ha) hb
   rw [hab] at hlo
   refine qAa tab Tryz.func89 rfl rfl (lblz rfl) (fun w0 F0=>?_)
   repeat' (first|refine wG ?_|refine wC hs ?_|refine wC hne ?_|refine wC had ?_|refine wC hlo ?_|refine rg 5 5 ?_|refine wS ?_ ?_<;>intro _|refine qFx ?_)
   exact leT
  ·rw [if_neg hn] at hab
   rw [Int.sign_eq_one_of_pos (by omega)] at hs
   have had:=qH6 a 0 (by omega) (by show (qAe 0).length<_;rw [qAk];simp)
   rw [qU8,Int.add_zero] at had
   have hlo:=qFf a b.natAbs (by omega) ha hb
   rw [hab] at hlo
   refine qAa tab Tryz.func89 rfl rfl (lblz rfl) (fun w0 F0=>?_)
   repeat' (first|refine wG ?_|refine wC hs ?_|refine wC had ?_|refine wC hlo ?_|refine rg 5 5 ?_|refine wS ?_ ?_<;>intro _|refine qFx ?_)
   exact leT
theorem qKn(r t:R3)(hr:RatOk r 10000000)(ht:RatOk t 10000000):Ret Tryz.prog 42 [rD r,rD t] (·=if rv t=0 then .tup [rD r0,.int .i64 5] else .tup [rD (rq (rv r/rv t)),.int .i64 0]):=by
 have tr:=qB6 r (hr.up (by decide))
 have tk:=qB6 t (ht.up (by decide))
 have or:=qAx hr (by decide)
 have ot:=qAx ht (by decide)
 generalize rv r=x at *
 generalize rv t=y at *
 have dx:=qDh x (or.mono (by decide))
 have dy:=qDh y (ot.mono (by decide))
 obtain ⟨x1,x2⟩:=or
 obtain ⟨y1,y2⟩:=ot
 have m1:=qD0 x.num y.den (by omega) (by omega)
 have m2:=qD0 y.num x.den (by omega) (by omega)
 have l1:=qC8 x.num.natAbs y.den
 have l2:=qC8 y.num.natAbs x.den
 simp only [ln] at l1 l2
 have e1:(x.num*(y.den:Int)).natAbs=x.num.natAbs*y.den:=by rw [Int.natAbs_mul,Int.natAbs_natCast]
 have e2:(y.num*(x.den:Int)).natAbs=y.num.natAbs*x.den:=by rw [Int.natAbs_mul,Int.natAbs_natCast]
 have hm:=rational_Make (x.num*y.den) (y.num*x.den) (by rw [e1];omega) (by rw [e2];omega)
 have hd:(x.den:Int)≠0:=by have:=x.den_nz;omega
 have h0:y.num*x.den=0↔y=0:=by
  rw [Int.mul_eq_zero,Rat.num_eq_zero];exact ⟨fun h=>h.elim id fun h=>absurd h hd,.inl⟩
 by_cases hy:y=0
 ·rw [if_pos hy]
  rw [if_pos (h0.2 hy)] at hm
  refine qAa tab Tryz.func42 rfl rfl (lblz rfl) (fun w0 F0=>?_)
  repeat' (first|refine wG ?_|refine wC tr ?_|refine wC tk ?_|refine wC dx ?_|refine wC dy ?_|refine wC m1 ?_|refine wC m2 ?_|refine wC hm ?_|refine rg 1 3 ?_|refine rg 2 13 ?_|refine wS ?_ ?_<;>intro _|refine qFx ?_)
  exact leT
 ·rw [if_neg hy]
  rw [if_neg (mt h0.1 hy)] at hm
  rw [qUt] at hm
  refine qAa tab Tryz.func42 rfl rfl (lblz rfl) (fun w0 F0=>?_)
  repeat' (first|refine wG ?_|refine wC tr ?_|refine wC tk ?_|refine wC dx ?_|refine wC dy ?_|refine wC m1 ?_|refine wC m2 ?_|refine wC hm ?_|refine rg 1 3 ?_|refine rg 2 13 ?_|refine wS ?_ ?_<;>intro _|refine qFx ?_)
  exact leT
end Go.Proofs.YtejigedigmagdaaGreat
namespace Go.Vw
theorem qSg(a b:Int)(hb:b≠0):(Rat.divInt a b).num.natAbs≤a.natAbs∧(Rat.divInt a b).den≤b.natAbs:=by
 rw [Rat.num_divInt,Rat.den_divInt,if_neg hb]
 refine ⟨?_,Nat.div_le_self _ _⟩
 have hg:0<Int.gcd b a:=Int.gcd_pos_of_ne_zero_left _ hb
 have hd:((Int.gcd b a:Nat):Int)∣b.sign*a:=Int.dvd_trans (Int.gcd_dvd_right b a) (Int.dvd_mul_left _ _)
 rw [Int.natAbs_ediv_of_dvd hd,Int.natAbs_mul]
 have h1:b.sign.natAbs=1:=by rw [Int.natAbs_sign,if_neg hb]
 rw [h1,Nat.one_mul]
 exact Nat.div_le_self _ _
theorem qHa{a b:Int}{k:Nat}(hb:b≠0)(ha:(qAe a.natAbs).length<k)(hb2:(qAe b.natAbs).length<k):okQ k (Rat.divInt a b):=
 ⟨Nat.lt_of_le_of_lt (qBm (qSg a b hb).1) ha,Nat.lt_of_le_of_lt (qBm (qSg a b hb).2) hb2⟩
theorem den_ne(x:Rat):(x.den:Int)≠0:=by have:=x.den_nz;omega
theorem add_divInt(x y:Rat):x+y=Rat.divInt (x.num*y.den+y.num*x.den) ((x.den*y.den:Nat):Int):=by rw [Rat.add_def',←Rat.divInt_ofNat]
theorem mul_divInt(x y:Rat):x*y=Rat.divInt (x.num*y.num) ((x.den*y.den:Nat):Int):=by rw [Rat.mul_def',←Rat.divInt_ofNat]
theorem okQ.add{x y:Rat}{k l:Nat}(hx:okQ k x)(hy:okQ l y):okQ (k+l) (x+y):=by
 rw [add_divInt]
 have l1:=qC8 x.num.natAbs y.den
 have l2:=qC8 y.num.natAbs x.den
 have l3:=qC8 x.den y.den
 have e1:(x.num*(y.den:Int)).natAbs=x.num.natAbs*y.den:=by rw [Int.natAbs_mul,Int.natAbs_natCast]
 have e2:(y.num*(x.den:Int)).natAbs=y.num.natAbs*x.den:=by rw [Int.natAbs_mul,Int.natAbs_natCast]
 have l4:=ln_mono (Int.natAbs_add_le (x.num*y.den) (y.num*x.den))
 obtain ⟨x1,x2⟩:=hx
 obtain ⟨y1,y2⟩:=hy
 simp only [ln] at l1 l2 l3 l4
 have l5:=ln_add1 (m:=(x.num*(y.den:Int)).natAbs) (n:=(y.num*(x.den:Int)).natAbs) (k:=k+l-2) (by simp only [ln];rw [e1];omega) (by simp only [ln];rw [e2];omega)
 simp only [ln] at l5
 refine qHa (by have:=Nat.mul_ne_zero x.den_nz y.den_nz;omega) (by omega) (by rw [Int.natAbs_natCast];omega)
theorem okQ.mul{x y:Rat}{k l:Nat}(hx:okQ k x)(hy:okQ l y):okQ (k+l) (x*y):=by
 rw [mul_divInt]
 have l1:=qC8 x.num.natAbs y.num.natAbs
 have l3:=qC8 x.den y.den
 have e1:(x.num*y.num).natAbs=x.num.natAbs*y.num.natAbs:=Int.natAbs_mul _ _
 obtain ⟨x1,x2⟩:=hx
 obtain ⟨y1,y2⟩:=hy
 simp only [ln] at l1 l3
 refine qHa (by have:=Nat.mul_ne_zero x.den_nz y.den_nz;omega) (by rw [e1];omega) (by rw [Int.natAbs_natCast];omega)
theorem okQ.neg{x:Rat}{k:Nat}(hx:okQ k x):okQ k (-x):=⟨by rw [Rat.neg_num,Int.natAbs_neg];exact hx.1,by rw [Rat.neg_den];exact hx.2⟩
theorem okQ.sub{x y:Rat}{k l:Nat}(hx:okQ k x)(hy:okQ l y):okQ (k+l) (x-y):=by rw [Rat.sub_eq_add_neg];exact hx.add hy.neg
theorem okQ.div{x y:Rat}{k l:Nat}(hx:okQ k x)(hy:okQ l y)(h0:y≠0):okQ (k+l) (x/y):=by
 rw [←qUt]
 have l1:=qC8 x.num.natAbs y.den
 have l2:=qC8 y.num.natAbs x.den
 have e1:(x.num*(y.den:Int)).natAbs=x.num.natAbs*y.den:=by rw [Int.natAbs_mul,Int.natAbs_natCast]
 have e2:(y.num*(x.den:Int)).natAbs=y.num.natAbs*x.den:=by rw [Int.natAbs_mul,Int.natAbs_natCast]
 obtain ⟨x1,x2⟩:=hx
 obtain ⟨y1,y2⟩:=hy
 simp only [ln] at l1 l2
 refine qHa (Int.mul_ne_zero (mt Rat.num_eq_zero.1 h0) (den_ne x)) (by rw [e1];omega) (by rw [e2];omega)
theorem num_lt0{q:Rat}:q.num<0↔q<0:=by
 rw [←Rat.not_le,←Rat.num_nonneg];omega
theorem num_gt0{q:Rat}:0<q.num↔0<q:=by
 have h1:=Rat.num_nonneg (q:=q)
 have h2:=Rat.num_eq_zero (q:=q)
 constructor
 ·intro h
  have:=h1.1 (by omega)
  have:q≠0:=fun e=>by have:=h2.2 e;omega
  grind
 ·intro h
  have:=h1.2 (by grind)
  have:q.num≠0:=fun e=>by have:=h2.1 e;grind
  omega
theorem sign_sub(x y:Rat):(x-y).num.sign=cmpQ x y:=by
 unfold cmpQ
 by_cases h:x<y
 ·rw [if_pos h]
  refine Int.sign_eq_neg_one_of_neg ?_
  have:x-y<0:=by grind
  exact num_lt0.2 this
 ·rw [if_neg h]
  by_cases h2:y<x
  ·rw [if_pos h2]
   refine Int.sign_eq_one_of_pos ?_
   have:0<x-y:=by grind
   exact num_gt0.2 this
  ·rw [if_neg h2]
   have:x-y=0:=by grind
   rw [this];rfl
theorem cmpQ_neg(x y:Rat):cmpQ x y<0↔x<y:=by
 unfold cmpQ
 constructor
 ·intro h;split at h
  ·assumption
  ·split at h<;>omega
 ·intro h;rw [if_pos h];decide
theorem qN1(x y:Rat):0<cmpQ x y↔y<x:=by
 unfold cmpQ
 constructor
 ·intro h;split at h
  ·omega
  ·split at h
   ·assumption
   ·omega
 ·intro h;rw [if_neg (by grind),if_pos h];decide
theorem cmpQ_zero(x y:Rat):cmpQ x y=0↔x=y:=by
 unfold cmpQ
 constructor
 ·intro h;split at h
  ·omega
  ·split at h
   ·omega
   ·grind
 ·intro h;subst h;rw [if_neg (by grind),if_neg (by grind)]
theorem qUx(x y:Rat): -1≤cmpQ x y∧cmpQ x y≤1:=by unfold cmpQ;split<;>(try split)<;>omega
end Go.Vw
namespace Go.Proofs.YtejigedigmagdaaGreat
open Go.Vw
attribute [local irreducible] awp awpL awpR
theorem ref03_Sub(r t:R3)(hr:RatOk r 10000000)(ht:RatOk t 10000000):Ret Tryz.prog 30 [rD r,rD t] (·=rD (rq (rv r-rv t))):=by
 have hn:=qQ8 t ht
 have or:=qAx ht (by decide)
 have ha:=qNb r (rq (-rv t)) hr (qAs or.neg)
 rw [qAw,←Rat.sub_eq_add_neg] at ha
 refine qAa tab Tryz.func30 rfl rfl (lblz rfl) (fun w0 F0=>?_)
 repeat' (first|refine wG ?_|refine wC hn ?_|refine wC ha ?_|refine rg 1 3 ?_|refine wS ?_ ?_<;>intro _|refine finG ?_)
 rfl
theorem qNa(r t:R3)(hr:RatOk r 1000000)(ht:RatOk t 1000000):Ret Tryz.prog 80 [rD r,rD t] (·= .int .i64 (cmpQ (rv r) (rv t))):=by
 have hs:=ref03_Sub r t (hr.up (by decide)) (ht.up (by decide))
 have or:=qAx hr (by decide)
 have ot:=qAx ht (by decide)
 have hg:=qD9 (rv r-rv t) ((or.sub ot).mono (by decide))
 rw [sign_sub] at hg
 refine qAa tab Tryz.func80 rfl rfl (lblz rfl) (fun w0 F0=>?_)
 repeat' (first|refine wG ?_|refine wC hs ?_|refine wC hg ?_|refine wS ?_ ?_<;>intro _|refine finG ?_)
 rfl
theorem qEh(r t:R3)(hr:RatOk r 1000000)(ht:RatOk t 1000000):Ret Tryz.prog 29 [rD r,rD t] (·= .bool (decide (rv r<rv t))):=by
 have hs:=qNa r t hr ht
 have hc:=cmpQ_neg (rv r) (rv t)
 obtain ⟨c,hcc⟩:∃c,cmpQ (rv r) (rv t)=c:=⟨_,rfl⟩
 rw [hcc] at hs hc
 rw [show decide (rv r<rv t)=decide (c<0) from decide_eq_decide.2 hc.symm]
 refine qAa tab Tryz.func29 rfl rfl (lblz rfl) (fun w0 F0=>?_)
 repeat' (first|refine wG ?_|refine wC hs ?_|refine wS ?_ ?_<;>intro _|refine finG ?_)
 rfl
theorem ref03_Min(r t:R3)(hr:RatOk r 1000000)(ht:RatOk t 1000000):Ret Tryz.prog 70 [rD r,rD t] (·=rD (rq (if rv t<rv r then rv t else rv r))):=by
 have hl:=qEh t r ht hr
 have h1:=qB0 r (hr.up (by decide))
 have h2:=qB0 t (ht.up (by decide))
 by_cases h:rv t<rv r
 ·rw [decide_eq_true h] at hl
  rw [if_pos h]
  refine qAa tab Tryz.func70 rfl rfl (lblz rfl) (fun w0 F0=>?_)
  repeat' (first|refine wG ?_|refine wC hl ?_|refine wC h2 ?_|refine wS ?_ ?_<;>intro _|refine finG ?_)
  rfl
 ·rw [decide_eq_false h] at hl
  rw [if_neg h]
  refine qAa tab Tryz.func70 rfl rfl (lblz rfl) (fun w0 F0=>?_)
  repeat' (first|refine wG ?_|refine wC hl ?_|refine wC h1 ?_|refine wS ?_ ?_<;>intro _|refine finG ?_)
  rfl
theorem ref03_Max(r t:R3)(hr:RatOk r 1000000)(ht:RatOk t 1000000):Ret Tryz.prog 69 [rD r,rD t] (·=rD (rq (if rv r<rv t then rv t else rv r))):=by
 have hl:=qEh r t hr ht
 have h1:=qB0 r (hr.up (by decide))
 have h2:=qB0 t (ht.up (by decide))
 by_cases h:rv r<rv t
 ·rw [decide_eq_true h] at hl
  rw [if_pos h]
  refine qAa tab Tryz.func69 rfl rfl (lblz rfl) (fun w0 F0=>?_)
  repeat' (first|refine wG ?_|refine wC hl ?_|refine wC h2 ?_|refine wS ?_ ?_<;>intro _|refine finG ?_)
  rfl
 ·rw [decide_eq_false h] at hl
  rw [if_neg h]
  refine qAa tab Tryz.func69 rfl rfl (lblz rfl) (fun w0 F0=>?_)
  repeat' (first|refine wG ?_|refine wC hl ?_|refine wC h1 ?_|refine wS ?_ ?_<;>intro _|refine finG ?_)
  rfl
theorem qS1(a b:Int)(ha: -9223372036854775808≤a)(ha2:a<9223372036854775808)(hb: -9223372036854775808≤b)(hb2:b<9223372036854775808)(h0:b≠0):Ret Tryz.prog 51 [.int .i64 a,.int .i64 b] (·=rD (rq (Rat.divInt a b))):=by
 have h1:=qJd a ha ha2
 have h2:=qJd b hb hb2
 have l1:=qKd (v:=a.natAbs) (by omega)
 have l2:=qKd (v:=b.natAbs) (by omega)
 have o:=qLg a b h0 (by omega) (by omega)
 refine qAa tab Tryz.func51 rfl rfl (lblz rfl) (fun w0 F0=>?_)
 repeat' (first|refine wG ?_|refine wC h1 ?_|refine wC h2 ?_|refine wC o ?_|refine wS ?_ ?_<;>intro _|refine finG ?_)
 rfl
end Go.Proofs.YtejigedigmagdaaGreat
namespace Go.Vw
@[reducible] def qC (q:Rat):List D:=rC (rq q)
@[reducible] def qD (q:Rat):D:=rD (rq q)
@[reducible] def qsD (l:List Rat):D:=.sl 3 qC 0 l
@[reducible] def eQ (l:List Rat):List D:=[qsD l]
@[reducible] def qssD (l:List (List Rat)):D:=.sl 1 eQ [] l
def timesQ(l:List Rat)(c:Rat):List Rat:=l.map (·*c)
def plusQ(a b:List Rat):List Rat:=List.zipWith (·+ ·) a b
def at2(m:List (List Rat))(i j:Nat):Rat:=(m.getD i []).getD j 0
def scaleQ(m:List (List Rat))(j:Nat):List (List Rat):=m.set j (timesQ (m.getD j []) (1/at2 m j j))
def elimRow(m:List (List Rat))(j i:Nat):List Rat:=if i=j then m.getD j [] else plusQ (m.getD i []) (timesQ (m.getD j []) (-(at2 m i j)))
def elimI(m:List (List Rat))(j i:Nat):List (List Rat):=(List.range i).map (elimRow m j)++m.drop i
def redQ(m:List (List Rat))(j:Nat):List (List Rat):=elimI (scaleQ m j) j m.length
def smallQ(q:Rat):Prop:=q.num.natAbs<18446744073709551616∧q.den<18446744073709551616
theorem qUi{n:Nat}(h:n<18446744073709551616):(qAe n).length<1000:=Nat.lt_of_le_of_lt (qA3 (n:=n) (k:=2) (by rw [qBj];exact h)) (by decide)
theorem qUh{n:Nat}(h:n<18446744073709551616*18446744073709551616):(qAe n).length<1000:=Nat.lt_of_le_of_lt (qA3 (n:=n) (k:=4) (by rw [qBj];exact h)) (by decide)
theorem smallQ.ok{q:Rat}(h:smallQ q):okQ 10000000 q:=⟨Nat.lt_trans (qUi h.1) (by decide),Nat.lt_trans (qUi h.2) (by decide)⟩
theorem smallQ.neg{q:Rat}(h:smallQ q):smallQ (-q):=by unfold smallQ at *;rw [show (-q).num= -q.num from rfl,show (-q).den=q.den from rfl,Int.natAbs_neg];exact h
theorem smallQ.one:smallQ 1:=by unfold smallQ;decide
theorem num_mul_le(x y:Rat):(x*y).num.natAbs≤x.num.natAbs*y.num.natAbs∧(x*y).den≤x.den*y.den:=by
 rw [Rat.num_mul,Rat.den_mul,←Int.natAbs_mul]
 refine ⟨?_,Nat.div_le_self _ _⟩
 have hd:((((x.num*y.num).natAbs.gcd (x.den*y.den):Nat)):Int)∣x.num*y.num:=Int.ofNat_dvd_left.2 (Nat.gcd_dvd_left _ _)
 rw [Int.natAbs_ediv_of_dvd hd]
 exact Nat.div_le_self _ _
theorem smallQ.mul{x y:Rat}(hx:smallQ x)(hy:smallQ y):okQ 10000000 (x*y):=by
 obtain ⟨h1,h2⟩:=num_mul_le x y
 exact ⟨Nat.lt_trans (qUh (Nat.lt_of_le_of_lt h1 (Nat.mul_lt_mul'' hx.1 hy.1))) (by decide),Nat.lt_trans (qUh (Nat.lt_of_le_of_lt h2 (Nat.mul_lt_mul'' hx.2 hy.2))) (by decide)⟩
def qNv(n:Nat)(m:List (List Rat)):Bool:=Nat.beq m.length n&&m.all fun r=>Nat.beq r.length n&&r.all fun q=>Nat.blt q.num.natAbs 18446744073709551616&&Nat.blt q.den 18446744073709551616
structure GoodM (n:Nat) (m:List (List Rat)):Prop where
 len:m.length=n
 row:∀i,i<n->(m.getD i []).length=n
 small:∀i,i<n->∀q∈m.getD i [],smallQ q
theorem GoodM.at2{n:Nat}{m:List (List Rat)}(h:GoodM n m){i j:Nat}(hi:i<n)(hj:j<n):smallQ (at2 m i j):=by
 refine h.small i hi _ ?_
 unfold Vw.at2
 have hr:=h.row i hi
 generalize m.getD i []=r at *
 rw [List.getD_eq_getElem?_getD,List.getElem?_eq_getElem (by omega)];exact List.getElem_mem _
def mAt(m:List (List Rat)):Nat->List (List Rat)
 |0=>m
 |j+1=>redQ (mAt m j) j
def facAt(m:List (List Rat)):Nat->Rat
 |0=>1
 |j+1=>facAt m j*at2 (mAt m j) j j
structure RunOk (n:Nat) (m:List (List Rat)):Prop where
 good:∀j,j≤n->GoodM n (mAt m j)
 piv:∀j,j<n->at2 (mAt m j) j j≠0
 fac:∀j,j<n->smallQ (facAt m j)
 scaled:∀j,j<n->GoodM n (scaleQ (mAt m j) j)
abbrev I2:=Rat×Rat
@[reducible] def iD (a b:R3):D:=.agg [.bool a.1,u32s a.2.1,u32s a.2.2,.bool b.1,u32s b.2.1,u32s b.2.2]
@[reducible] def iQ (i:I2):D:=iD (rq i.1) (rq i.2)
def qD1(x y:Rat):I2:=if y<x then (0,0) else (x,y)
def okI(k:Nat)(i:I2):Prop:=okQ k i.1∧okQ k i.2
theorem qB9{k:Nat}(h:1<k):okQ k 0:=⟨by show (qAe 0).length<k;rw [qAk];simp;omega,by show (qAe 1).length<k;rw [limbs_one];simpa using h⟩
theorem qGc{k:Nat}{x y:Rat}(hx:okQ k x)(hy:okQ k y)(h:1<k):okI k (qD1 x y):=by
 unfold qD1;split
 ·exact ⟨qB9 h,qB9 h⟩
 ·exact ⟨hx,hy⟩
theorem qHv(x y:Rat):(qD1 x y).1≤(qD1 x y).2:=by
 unfold qD1;split
 ·exact Rat.le_refl
 ·rename_i h;exact Rat.not_lt.1 h
theorem qGx{x y:Rat}(h:x≤y):qD1 x y=(x,y):=by
 unfold qD1;rw [if_neg (Rat.not_lt.2 h)]
def qBo(i:I2)(v:Rat):Bool:=decide (i.1≤v)&&decide (v≤i.2)
def withinI(a b:I2):Bool:=decide (b.1≤a.1)&&decide (a.2≤b.2)
def minQ(x y:Rat):Rat:=if y<x then y else x
def maxQ(x y:Rat):Rat:=if x<y then y else x
def hullL(x:Rat)(l:List Rat):I2:=(l.foldl minQ x,l.foldl maxQ x)
def hullI(a b:I2):I2:=hullL a.1 [a.2,b.1,b.2]
def meetI(a b:I2):Option I2:=if minQ a.2 b.2<maxQ a.1 b.1 then none else some (maxQ a.1 b.1,minQ a.2 b.2)
theorem okQ_minQ{k:Nat}{x y:Rat}(hx:okQ k x)(hy:okQ k y):okQ k (minQ x y):=by unfold minQ;split<;>assumption
theorem okQ_maxQ{k:Nat}{x y:Rat}(hx:okQ k x)(hy:okQ k y):okQ k (maxQ x y):=by unfold maxQ;split<;>assumption
theorem hullL_ok{k:Nat}:∀(l:List Rat) (m n:Rat),okQ k m->okQ k n->(∀q∈l,okQ k q)->okQ k (l.foldl minQ m)∧okQ k (l.foldl maxQ n)
 |[],m,n,hm,hn,_=>⟨hm,hn⟩
 |x::l,m,n,hm,hn,h=>hullL_ok l (minQ m x) (maxQ n x) (okQ_minQ hm (h x (by simp))) (okQ_maxQ hn (h x (by simp))) fun q hq=>h q (by simp [hq])
theorem qUq{α:Type}(f:α->Rat->α)(a:α)(l:List Rat){i:Nat}(h:i<l.length):(l.take (i+1)).foldl f a=f ((l.take i).foldl f a) (l.getD i 0):=by
 rw [List.take_add_one,List.foldl_append]
 simp [List.getD_eq_getElem?_getD,h]
theorem take_ok{k:Nat}{l:List Rat}{x:Rat}(hx:okQ k x)(h:∀q∈l,okQ k q)(i:Nat):okQ k ((l.take i).foldl minQ x)∧okQ k ((l.take i).foldl maxQ x):=hullL_ok _ x x hx hx fun q hq=>h q (List.mem_of_mem_take hq)
theorem getD_ok{k:Nat}{l:List Rat}(h:∀q∈l,okQ k q){i:Nat}(hi:i<l.length):okQ k (l.getD i 0):=by
 have:l.getD i 0=l[i]:=by simp [List.getD_eq_getElem?_getD,hi]
 rw [this];exact h _ (List.getElem_mem hi)
end Go.Vw
namespace Go.Proofs.YtejigedigmagdaaGreat
open Go.Vw
attribute [local irreducible] awp awpL awpR
theorem qBk(x y:Rat)(hx:okQ 10000000 x)(hy:okQ 10000000 y):Ret Tryz.prog 109 [qD x,qD y] (·= .int .i64 (cmpQ x y)):=by
 have:=qDu (rq x) (rq y) (qAs hx) (qAs hy)
 rw [qAw,qAw] at this
 exact this
theorem qFg(x y:Rat)(hx:okQ 10000000 x)(hy:okQ 10000000 y):Ret Tryz.prog 44 [qD x,qD y] (·=qD (x+y)):=by
 have:=qC2 (rq x) (rq y) (qAs hx) (qAs hy)
 rw [qAw,qAw] at this
 exact this
theorem qDl(x y:Rat)(hx:okQ 10000000 x)(hy:okQ 10000000 y):Ret Tryz.prog 43 [qD x,qD y] (·=qD (x-y)):=by
 have:=qKm (rq x) (rq y) (qAs hx) (qAs hy)
 rw [qAw,qAw] at this
 exact this
theorem qJf(x y:Rat)(hx:okQ 10000000 x)(hy:okQ 10000000 y):Ret Tryz.prog 45 [qD x,qD y] (·=qD (x*y)):=by
 have:=qGg (rq x) (rq y) (qAs hx) (qAs hy)
 rw [qAw,qAw] at this
 exact this
theorem qGy(x y:Rat)(hx:okQ 10000000 x)(hy:okQ 10000000 y):Ret Tryz.prog 42 [qD x,qD y] (·=if y=0 then .tup [rD r0,.int .i64 5] else .tup [qD (x/y),.int .i64 0]):=by
 have:=qKn (rq x) (rq y) (qAs hx) (qAs hy)
 rw [qAw,qAw] at this
 exact this
theorem qB7(x:Rat)(hx:okQ 10000000 x):Ret Tryz.prog 38 [qD x] (·= .int .i64 x.num.sign):=by
 have:=qNc (rq x) (qAs hx)
 rw [qAw] at this
 exact this
theorem qIv(x y:Rat)(hx:okQ 10000000 x)(hy:okQ 10000000 y):Ret Tryz.prog 30 [qD x,qD y] (·=qD (x-y)):=by
 have:=ref03_Sub (rq x) (rq y) (qAs hx) (qAs hy)
 rw [qAw,qAw] at this
 exact this
theorem qLv(x y:Rat)(hx:okQ 1000000 x)(hy:okQ 1000000 y):Ret Tryz.prog 80 [qD x,qD y] (·= .int .i64 (cmpQ x y)):=by
 have:=qNa (rq x) (rq y) (qAs hx) (qAs hy)
 rw [qAw,qAw] at this
 exact this
theorem qEa(x y:Rat)(hx:okQ 1000000 x)(hy:okQ 1000000 y):Ret Tryz.prog 29 [qD x,qD y] (·= .bool (decide (x<y))):=by
 have:=qEh (rq x) (rq y) (qAs hx) (qAs hy)
 rw [qAw,qAw] at this
 exact this
theorem qTy(x y:Rat)(hx:okQ 1000000 x)(hy:okQ 1000000 y):Ret Tryz.prog 70 [qD x,qD y] (·=qD (minQ x y)):=by
 have:=ref03_Min (rq x) (rq y) (qAs hx) (qAs hy)
 rw [qAw,qAw] at this
 exact this
theorem qTz(x y:Rat)(hx:okQ 1000000 x)(hy:okQ 1000000 y):Ret Tryz.prog 69 [qD x,qD y] (·=qD (maxQ x y)):=by
 have:=ref03_Max (rq x) (rq y) (qAs hx) (qAs hy)
 rw [qAw,qAw] at this
 exact this
theorem qIu(a b:R3)(ha:RatOk a 200000)(hb:RatOk b 200000):Ret Tryz.prog 68 [iD a b] (·=iQ (qD1 (rv a) (rv b))):=by
 have hl:=qEh b a (hb.up (by decide)) (ha.up (by decide))
 have h1:=qB0 a (ha.up (by decide))
 have h2:=qB0 b (hb.up (by decide))
 unfold qD1
 by_cases h:rv b<rv a
 ·rw [decide_eq_true h] at hl
  rw [if_pos h]
  unfold iQ
  rw [qQ0]
  refine qAa tab Tryz.func68 rfl rfl (lblz rfl) (fun w0 F0=>?_)
  repeat' (first|refine wG ?_|refine wC hl ?_|refine rg 3 5 ?_|refine wS ?_ ?_<;>intro _|(show qA5 _ _ _ _ _;first|refine finF true rfl rfl sc ?_|refine finF false rfl rfl sc ?_|refine finC false rfl rfl sc sc ?_|refine finN rfl rfl sc ?_|refine finL true rfl rfl sc rfl (LeR.cons rfl leL LeR.nil) ?_|refine finA true rfl rfl sc ?_|refine finA false rfl rfl sc ?_|refine finE true rfl rfl sc ?_|refine finE false rfl rfl sc ?_))
  exact leL
 ·rw [decide_eq_false h] at hl
  rw [if_neg h]
  refine qAa tab Tryz.func68 rfl rfl (lblz rfl) (fun w0 F0=>?_)
  repeat' (first|refine wG ?_|refine wC hl ?_|refine wC h1 ?_|refine wC h2 ?_|refine rg 3 5 ?_|refine wS ?_ ?_<;>intro _|refine finG ?_)
  rfl
theorem qSz(a b v:R3)(ha:RatOk a 200000)(hb:RatOk b 200000)(hv:RatOk v 500000):Ret Tryz.prog 119 [iD a b,rD v] (·= .bool (qBo (qD1 (rv a) (rv b)) (rv v))):=by
 have t1:=qIu a b ha hb
 have o1:=qGc (qAx ha (by decide)) (qAx hb (by decide)) (by decide)
 generalize qD1 (rv a) (rv b)=i at *
 obtain ⟨p,q⟩:=i
 obtain ⟨op,oq⟩:=o1
 have h1:=qEh v (rq p) (hv.up (by decide)) (qAs (op.mono (by decide)))
 have h2:=qEh (rq q) v (qAs (oq.mono (by decide))) (hv.up (by decide))
 rw [qAw] at h1 h2
 unfold qBo
 simp only
 rw [show decide (p≤rv v)= !decide (rv v<p) by rw [←decide_not];exact decide_eq_decide.2 Rat.not_lt.symm,show decide (rv v≤q)= !decide (q<rv v) by rw [←decide_not];exact decide_eq_decide.2 Rat.not_lt.symm]
 generalize decide (rv v<p)=x at *
 generalize decide (q<rv v)=y at *
 cases x<;>cases y
 ·refine qAa tab Tryz.func119 rfl rfl (lblz rfl) (fun w0 F0=>?_)
  repeat' (first|refine wG ?_|refine wC t1 ?_|refine wC h1 ?_|refine wC h2 ?_|refine wS ?_ ?_<;>intro _|refine finG ?_)
  rfl
 ·refine qAa tab Tryz.func119 rfl rfl (lblz rfl) (fun w0 F0=>?_)
  repeat' (first|refine wG ?_|refine wC t1 ?_|refine wC h1 ?_|refine wC h2 ?_|refine wS ?_ ?_<;>intro _|refine finG ?_)
  rfl
 ·refine qAa tab Tryz.func119 rfl rfl (lblz rfl) (fun w0 F0=>?_)
  repeat' (first|refine wG ?_|refine wC t1 ?_|refine wC h1 ?_|refine wC h2 ?_|refine wS ?_ ?_<;>intro _|refine finG ?_)
  rfl
 ·refine qAa tab Tryz.func119 rfl rfl (lblz rfl) (fun w0 F0=>?_)
  repeat' (first|refine wG ?_|refine wC t1 ?_|refine wC h1 ?_|refine wC h2 ?_|refine wS ?_ ?_<;>intro _|refine finG ?_)
  rfl
end Go.Proofs.YtejigedigmagdaaGreat
namespace Go.Vw
theorem len_small{z:Int}(h:z.natAbs<4294967296):(qAe z.natAbs).length≤1:=qA3 (by simpa [qBj] using h)
end Go.Vw
namespace Go.Proofs.YtejigedigmagdaaGreat
open Go.Vw
attribute [local irreducible] awp awpL awpR
theorem rq_int(z:Int):rq (z:Rat)=zR z:=by
 unfold rq zR
 rw [Rat.num_intCast,Rat.den_intCast]
 rfl
theorem okQ_int{z:Int}(h:z.natAbs<4294967296):okQ 10000000 (z:Rat):=by
 unfold okQ
 rw [Rat.num_intCast,Rat.den_intCast,limbs_one]
 exact ⟨Nat.lt_of_le_of_lt (len_small h) (by decide),by decide⟩
end Go.Proofs.YtejigedigmagdaaGreat
namespace Go.Vw
def srt(l:List Rat):List Rat:=l.mergeSort fun a b=>decide (a≤b)
def AscQ(l:List Rat):Prop:=l.Pairwise (·≤ ·)
theorem qD3(l:List Rat):(srt l).Perm l:=List.mergeSort_perm _ _
theorem qL8(l:List Rat):AscQ (srt l):=by
 have h:=List.pairwise_mergeSort (le:=fun a b:Rat=>decide (a≤b)) (fun a b c h1 h2=>by
  simp only [decide_eq_true_eq] at *
  exact Rat.le_trans h1 h2) (fun a b=>by
  rcases Rat.le_total (a:=a) (b:=b) with h|h<;>simp [h]) l
 exact List.Pairwise.imp (fun h=>of_decide_eq_true h) h
theorem asc_unique{a b:List Rat}(ha:AscQ a)(hb:AscQ b)(h:a.Perm b):a=b:=
 List.Perm.eq_of_pairwise (le:=fun x y:Rat=>x≤y) (fun x y _ _ h1 h2=>Rat.le_antisymm h1 h2) ha hb h
theorem qLe{a l:List Rat}(ha:AscQ a)(h:a.Perm l):a=srt l:=asc_unique ha (qL8 l) (h.trans (qD3 l).symm)
theorem qE2(l:List Rat):(srt l).length=l.length:=(qD3 l).length_eq
theorem asc_of_getD{l:List Rat}(h:∀i j,i<j->j<l.length->l.getD i 0≤l.getD j 0):AscQ l:=by
 refine List.pairwise_iff_getElem.2 fun i j hi hj hij=>?_
 have:=h i j hij hj
 simpa [List.getD_eq_getElem?_getD,hi,hj] using this
@[reducible] def iC (a b:R3):List D:=[.bool a.1,u32s a.2.1,u32s a.2.2,.bool b.1,u32s b.2.1,u32s b.2.2]
abbrev zR3:List V:=[.d (.bool false),.d .nils,.d .nils]
abbrev zI:List V:=[.d (.bool false),.d .nils,.d .nils,.d (.bool false),.d .nils,.d .nils]
theorem rv_r0:rv r0=0:=by rw [←qQ0,qAw]
theorem ok_r0{k:Nat}(h:1<k):RatOk r0 k:=by
 have h0:(0:Nat)<k:=Nat.lt_of_succ_lt h
 exact ⟨by intro x hx;exact absurd hx (by simp [r0]),by intro x hx;exact absurd hx (by simp [r0]),by simpa [r0] using h0,by simpa [r0] using h0⟩
def twoQ(n:Nat):Rat:=((2^n:Nat):Int)
theorem twoQ_ne(n:Nat):twoQ n≠0:=by
 have h:(2:Nat)^n≠0:=Nat.ne_of_gt (Nat.two_pow_pos n)
 unfold twoQ
 intro hc
 have hh:(((2^n:Nat):Int):Rat)=((0:Int):Rat):=hc
 have:=Rat.intCast_inj.1 hh
 omega
def In(i:I2)(v:Rat):Prop:=i.1≤v∧v≤i.2
theorem withinI_iff{i j:I2}:withinI i j=true↔j.1≤i.1∧i.2≤j.2:=by unfold withinI;simp
theorem In.mono{i j:I2}{v:Rat}(h:withinI i j=true)(hv:In i v):In j v:=by
 have:=withinI_iff.1 h
 exact ⟨Rat.le_trans this.1 hv.1,Rat.le_trans hv.2 this.2⟩
theorem mulR{a b c:Rat}(h:a≤b)(hc:0≤c):a*c≤b*c:=Rat.mul_le_mul_of_nonneg_right h hc
theorem mulRn{a b c:Rat}(h:a≤b)(hc:c≤0):b*c≤a*c:=by
 have:=Rat.mul_le_mul_of_nonneg_right (c:= -c) h (by grind)
 grind
theorem lin{m n x y a b:Rat}(h1:a≤x)(h2:x≤b)(ha:m≤a*y∧a*y≤n)(hb:m≤b*y∧b*y≤n):m≤x*y∧x*y≤n:=by
 rcases Rat.le_total (a:=0) (b:=y) with h|h
 ·exact ⟨Rat.le_trans ha.1 (mulR h1 h),Rat.le_trans (mulR h2 h) hb.2⟩
 ·exact ⟨Rat.le_trans hb.1 (mulRn h2 h),Rat.le_trans (mulRn h1 h) ha.2⟩
theorem qHe(n:Nat):twoQ n=((2^n:Nat):Rat):=rfl
theorem qDj(n:Nat):0<twoQ n:=by
 have h:=twoQ_ne n
 have h2:(0:Rat)≤twoQ n:=by
  rw [qHe]
  exact Rat.natCast_nonneg
 grind
theorem two_len{n k:Nat}(h:n/32+1<k):(qAe (2^n)).length<k:=by
 rw [←limbs_two n,List.length_set,List.length_replicate];exact h
theorem okQ_two{n:Nat}(h:n≤128):okQ 10 (twoQ n):=by
 refine ⟨?_,?_⟩
 ·have e:(twoQ n).num.natAbs=2^n:=by unfold twoQ;rw [Rat.num_intCast];exact Int.natAbs_natCast _
  rw [e]
  exact two_len (by omega)
 ·have e:(twoQ n).den=1:=by unfold twoQ;exact Rat.den_intCast _
  rw [e,limbs_one];decide
theorem rq_two(n:Nat):rq (twoQ n)=(false,qAe (2^n),[]):=by
 have e:(twoQ n).num=((2^n:Nat):Int):=by unfold twoQ;exact Rat.num_intCast _
 have e2:(twoQ n).den=1:=by unfold twoQ;exact Rat.den_intCast _
 unfold rq
 rw [e,e2,Int.natAbs_natCast,decide_eq_false (Int.not_lt.2 (Int.natCast_nonneg _))]
 rfl
theorem okQ_natI{m k:Nat}(h:(qAe m).length<k)(hk:1<k):okQ k (((m:Nat):Int):Rat):=by
 refine ⟨?_,?_⟩
 ·rw [Rat.num_intCast,Int.natAbs_natCast];exact h
 ·rw [Rat.den_intCast,limbs_one];exact hk
theorem qAm{a b:Rat}(h:b≠0):a/b*b=a:=by rw [Rat.div_def,Rat.mul_assoc,Rat.inv_mul_cancel b h,Rat.mul_one]
theorem okQ_one:okQ 2 1:=⟨by show (qAe 1).length<2;rw [limbs_one];decide,by show (qAe 1).length<2;rw [limbs_one];decide⟩
theorem okI.mono{k l:Nat}{i:I2}(h:okI k i)(hl:k≤l):okI l i:=⟨h.1.mono hl,h.2.mono hl⟩
theorem sign_zero_iff{q:Rat}:q.num.sign=0↔q=0:=by rw [Int.sign_eq_zero_iff_zero,Rat.num_eq_zero]
def medLo(l:List Rat):Rat:=(srt l).getD ((l.length+1)/2-1) 0
def medHi(l:List Rat):Rat:=(srt l).getD (l.length/2) 0
def midQ(l:List Rat):Rat:=(medLo l+medHi l)/2
def absQ(x:Rat):Rat:=if x<0 then-x else x
def distQ(l:List Rat)(m:Rat):List Rat:=l.map fun x=>absQ (x-m)
def qFirst(p:Rat)(n:Nat):Int:=if 0<(p*(n:Int)).floor∧p*(n:Int)=((p*(n:Int)).floor:Int) then (p*(n:Int)).floor-1 else (p*(n:Int)).floor
def qLo(l:List Rat)(p:Rat):Rat:=(srt l).getD (min (qFirst p l.length) ((l.length:Int)-1)).toNat 0
def qHi(l:List Rat)(p:Rat):Rat:=(srt l).getD (min (p*(l.length:Int)).floor ((l.length:Int)-1)).toNat 0
theorem srt_ok{k:Nat}{l:List Rat}(h:∀q∈l,okQ k q):∀q∈srt l,okQ k q:=fun q hq=>h q ((qD3 l).subset hq)
theorem absQ_ok{k:Nat}{x:Rat}(h:okQ k x):okQ k (absQ x):=by unfold absQ;split;exact h.neg;exact h
theorem okQ_two2:okQ 2 2:=⟨by show (qAe 2).length<2;rw [qCp (by decide) (by decide)];decide,by show (qAe 1).length<2;rw [limbs_one];decide⟩
end Go.Vw
namespace Go.Vw
open Go.Sort hiding swp
def ltQ(x y:Rat):Bool:=decide (x<y)
theorem ltQ_iff{x y:Rat}:ltQ x y=true↔x<y:=by simp [ltQ]
theorem ltQ_not{x y:Rat}:ltQ x y=false↔y≤x:=by simp [ltQ,Rat.not_lt]
theorem swoQ:SWO ltQ where
 irrefl x:=by rw [ltQ_not];exact Rat.le_refl
 trans x y z h1 h2:=by rw [ltQ_iff] at *;grind
 ntrans x y z h1 h2:=by rw [ltQ_not] at *;exact Rat.le_trans h2 h1
theorem getQ(d:Array Rat)(i:Nat):d.toList.getD i 0=d[i]! :=by
 rw [List.getD_eq_getElem?_getD,Array.getElem?_toList]
 by_cases h:i<d.size
 ·rw [getElem!_pos d i h,Array.getElem?_eq_getElem h];rfl
 ·rw [getElem!_neg d i h,Array.getElem?_eq_none (by omega)];rfl
theorem swp_toList(d:Array Rat)(i j:Nat):(Go.Sort.swp d i j).toList=(d.toList.set i (d.toList.getD j 0)).set j (d.toList.getD i 0):=by
 unfold Go.Sort.swp
 rw [Array.toList_setIfInBounds,Array.toList_setIfInBounds,getQ,getQ]
theorem blkSw{ty:TypeId}{sz:Nat}{e:Rat->List D}{z:Rat}{d:Array Rat}{i j a b a' b':Nat}(h1:a=i:=by omega)(h2:b=j:=by omega)(h3:a'=i:=by omega)(h4:b'=j:=by omega):some (Blk.data ty sz e z ((d.toList.set a (d.toList.getD b 0)).set b' (d.toList.getD a' 0)))=some (Blk.data ty sz e z (Go.Sort.swp d i j).toList):=by
 subst h1 h2 h3 h4
 rw [swp_toList]
def AllOk(d:Array Rat):Prop:=∀q∈d.toList,okQ 1000 q
theorem AllOk.get{d:Array Rat}(h:AllOk d){i:Nat}(hi:i<d.size):okQ 1000 (d.toList.getD i 0):=getD_ok h (by simpa using hi)
theorem AllOk.iff{d:Array Rat}:AllOk d↔∀i,i<d.size->okQ 1000 d[i]! :=by
 constructor
 ·intro h i hi
  rw [←getQ];exact h.get hi
 ·intro h q hq
  obtain ⟨i,hi,rfl⟩:=List.getElem_of_mem hq
  have hi':i<d.size:=by simpa using hi
  have:=h i hi'
  rw [getElem!_pos d i hi'] at this
  simpa using this
theorem AllOk.perm{d d':Array Rat}(h:AllOk d){a b:Nat}(hab:a≤b)(hb:b≤d.size)(hp:PermIn a b d d'):AllOk d':=by
 rw [AllOk.iff] at *
 rw [hp.1]
 intro i hi
 exact permIn_all d d' 0 d.size (fun q=>okQ 1000 q) (Nat.le_refl _) (permIn_mono d d' a b 0 d.size (Nat.zero_le _) hb (Nat.le_refl _) hp) (fun i _ hi=>h i hi) i (Nat.zero_le _) hi
theorem AllOk.swp{d:Array Rat}(h:AllOk d){i j:Nat}(hi:i<d.size)(hj:j<d.size):AllOk (Go.Sort.swp d i j):=h.perm (Nat.zero_le d.size) (Nat.le_refl _) (swp_permIn d 0 d.size i j (Nat.zero_le _) hi (Nat.zero_le _) hj (Nat.le_refl _))
def qVg(d:Array Rat)(a b:Nat):Array Rat:=insertionSort ltQ d a b
theorem qTr{d:Array Rat}{a b:Nat}(hab:a≤b)(hb:b≤d.size):PermIn a b d (qVg d a b):=(insertionSort_holds swoQ d a b hab hb).1
theorem srtIn_asc{d:Array Rat}{a b:Nat}(hab:a≤b)(hb:b≤d.size):SortedIn ltQ a b (qVg d a b):=(insertionSort_holds swoQ d a b hab hb).2
theorem qTq{d:Array Rat}{a b:Nat}(hab:a≤b)(hb:b≤d.size):(qVg d a b).size=d.size:=(qTr hab hb).1
theorem srtIn_all(d:Array Rat):(qVg d 0 d.size).toList=srt d.toList:=by
 have hp:=qTr (d:=d) (Nat.zero_le d.size) (Nat.le_refl _)
 have hs:=srtIn_asc (d:=d) (Nat.zero_le d.size) (Nat.le_refl _)
 refine qLe (asc_of_getD fun i j hij hj=>?_) ?_
 ·rw [getQ,getQ]
  exact ltQ_not.1 (hs i j (Nat.zero_le _) hij (by rw [←hp.1];simpa using hj))
 ·have:=hp.2.2
  have e:=hp.1
  generalize qVg d 0 d.size=x at *
  rw [←e,show x.extract 0 x.size=x by simp,e,show d.extract 0 d.size=d by simp] at this
  exact this
end Go.Vw
namespace Go.Vw
theorem awp_cast{X:Ctx}{c:Code}{Q:Exit->St->Prop}{s:St}(t:Nat){x:D}(y:D)(ht:s.tmps t= .d x)(hle:LeD x y)(h:awp X c Q (s.put (some t) (.d y))):awp X c Q s:=fun io F a w hs=>by
 refine h io F a w ⟨hs.kept,fun u=>?_,hs.nt,hs.df,hs.bl,hs.inj,hs.ff,hs.f0,hs.st⟩
 rw [qJg]
 simp only [St.put]
 cases hb:Nat.beq u t with
 |true=>
  have:=Nat.eq_of_beq_eq_true hb
  subst this
  have hv:=hs.tm u
  rw [ht] at hv
  simp only [cond_true,VR] at hv ⊢
  exact hle F w _ hv
 |false=>simpa using hs.tm u
section
variable {X:Ctx} {all:Array Oper} {s:St} {o:Oper} {Q:Exit->St->Prop} {rest:List Oper} {d:Tmp} {α:Type} {en:α->List D} {z:α} {l:List α}
theorem e_litO{e:TypeId}{sz len:Nat}{rows:List (List D)}{dst:Option Tmp}{op:Op}{ty:TypeId}{pos:String}{after:Array Edge}{g:Option (Nat×Bool)}(hdst:dst=some d)(hg:gd all s ⟨dst,op,ty,pos,after,g⟩=some true)(hd:qB5 X.N (some d)=true)(hK:X.K.contains d=false)(h:qO1 X.T s op=some (e,sz,len,rows))(hr:LeR sz rows en l):
    E1 X all s ⟨dst,op,ty,pos,after,g⟩ ((s.new d (.data e sz en z l)).put (some d) (.own d 0 len e sz)):=by
  subst hdst
  intro io F a w hs K Q hQ
  have hw:=qC9 (fun t _=>hs.tm t) hg
  obtain ⟨h1,arr,h2,h3,h4,h5⟩:=qMm (P:=X.P) (ev:=a.eval) X.ok ⟨some d,op,ty,pos,after,g⟩ (fun y _=>hs.opd y) h
  obtain ⟨r1,r2⟩:=hr.spec
  have hlra:LRA F w (fun j=>arr[j]?) 0 sz en l:=fun i b hi=>by
    have hlt:i<rows.length:=by have:=(List.getElem?_eq_some_iff.1 hi).1;omega
    obtain ⟨q1,q2⟩:=r2 i _ b (List.getElem?_eq_getElem hlt) hi
    obtain ⟨p1,p2⟩:=h5 i _ (List.getElem?_eq_getElem hlt)
    exact ⟨q2.1▸q1,by rw [Nat.zero_add];exact q2.2 F w _ _ p2⟩
  have hnb:=hs.newBlk d (qPj hK) e arr (.data e sz en z l) (.inl ⟨_,_,_,_,_,rfl,hlra⟩)
  refine qCu hw h2 (hQ _ F _ _ (hnb.put (qCb hd) ?_))
  simp only [VR]
  refine .inr ⟨w.heap.size,len,_,qA8 _ _ _,by rw [Nat.zero_mul],by omega,by unfold maxLen;omega,heap_alloc_new w _,by simp [h3],?_⟩
  show 0+len≤(s.new d _).ln d
  rw [show (s.new d (.data e sz en z l)).ln d=_ from qFm qAn]
  simp [Blk.ln];omega
theorem stepLitO{e:TypeId}{sz len:Nat}{rows:List (List D)}(hdst:o.dst=some d)(h:qO1 X.T s o.op=some (e,sz,len,rows))(hg:gd all s o=some true)(hd:qB5 X.N (some d)=true)(hK:X.K.contains d=false)(hr:LeR sz rows en l)(r:awpL X all rest Q ((s.new d (.data e sz en z l)).put (some d) (.own d 0 len e sz))):awpL X all (o::rest) Q s:=by
 obtain ⟨dst,op,ty,pos,after,g⟩:=o
 exact qEf (e_litO hdst hg hd hK h hr) r
end
end Go.Vw
namespace Go.Proofs.YtejigedigmagdaaGreat
open Go.Vw
attribute [local irreducible] awp awpL awpR
abbrev bq(d:Array Rat):Blk:=.data 27 3 qC 0 d.toList
abbrev ow(d:Array Rat):V:=.own 1000 0 d.size 27 3
abbrev cmpV:V:=.fn 109 []
theorem cmpR(x y:Rat)(hx:okQ 1000 x)(hy:okQ 1000 y):∃u:Int, -1≤u∧u≤1∧(u<0↔ltQ x y=true)∧Ret Tryz.prog 109 [qD x,qD y] (·= .int .i64 u):=
 ⟨cmpQ x y,(qUx x y).1,(qUx x y).2,by rw [cmpQ_neg,ltQ_iff],qBk x y (hx.mono (by decide)) (hy.mono (by decide))⟩
theorem qR2(a:Nat):∀(j:Nat) (m:Array Rat),j<m.size->AllOk m->(Go.Sort.insInner ltQ a j m).size=m.size∧AllOk (Go.Sort.insInner ltQ a j m)
 |0,m,h,hm=>⟨rfl,hm⟩
 |j+1,m,h,hm=>by
  unfold Go.Sort.insInner
  split
  ·have:=qR2 a j (Go.Sort.swp m (j+1) j) (by rw [Go.Sort.size_swp];omega) (hm.swp h (by omega))
   rw [Go.Sort.size_swp] at this
   exact this
  ·exact ⟨rfl,hm⟩
theorem sl_insertion(d:Array Rat)(a b:Nat)(hd:AllOk d)(hn:d.size<10000000000)(hab:a≤b)(hb:b≤d.size):RetB Tryz.prog 213 [ow d,.d (.int .i64 a),.d (.int .i64 b),cmpV] (qAh [(1000,bq d)]) (.tup []) (qAh [(1000,bq (qVg d a b))]):=by
 have hl:d.toList.length=d.size:=Array.length_toList
 have hr:=qTq hab hb
 obtain ⟨R,hR⟩:∃R,qVg d a b=R:=⟨_,rfl⟩
 have hR2:Go.Sort.insOuter ltQ a b (a+1) d=R:=hR
 rw [hR] at hr ⊢
 clear hR
 refine qBa tab [1000] Tryz.func213 rfl rfl rfl (lblz rfl) rfl ⟨by show d.toList.length≤R.toList.length;simp [hr],trivial⟩ (fun w0 F0 A io0=>?_)
 repeat' (first|refine wG ?_|refine rg 4 14 ?_|refine rg 6 16 ?_|refine wS ?_ ?_<;>intro _|refine wB ?_ ?_)
 refine qB2 (fun (m:Array Rat) (i:Nat)=>([(0,ow d),(1,.d (.int .i64 a)),(2,.d (.int .i64 b)),(3,cmpV),(8,.d (.int .i64 i))],[(1000,bq m)])) (fun m i=>m.size=d.size∧AllOk m∧a<i∧i≤b+1∧Go.Sort.insOuter ltQ a b i m=R) (fun m i=>b+1-i) d (a+1) ⟨rfl,hd,by omega,by omega,hR2⟩ ⟨rfl,rfl,rfl,rfl,rfl,rfl⟩ ⟨rfl,trivial⟩ (fun m i hi=>?_)
 obtain ⟨h1,h2,h3,h4,h5⟩:=hi
 have hml:m.toList.length=m.size:=Array.length_toList
 clear hR2
 rw [Go.Sort.insOuter] at h5
 by_cases h:i<b
 ·rw [if_pos h] at h5
  obtain ⟨F,hF⟩:∃F,Go.Sort.insInner ltQ a i m=F:=⟨_,rfl⟩
  have hFo:=qR2 a i m (by omega) h2
  rw [hF] at h5 hFo
  repeat' (first|refine wG ?_|refine rg 4 14 ?_|refine rg 6 16 ?_|refine wS ?_ ?_<;>intro _|refine wB ?_ ?_)
  refine qB2 (fun (k:Array Rat) (j:Nat)=>([(0,ow d),(1,.d (.int .i64 a)),(2,.d (.int .i64 b)),(3,cmpV),(8,.d (.int .i64 i)),(9,.d (.int .i64 j))],[(1000,bq k)])) (fun k j=>j≤i∧a≤j∧k.size=d.size∧AllOk k∧Go.Sort.insInner ltQ a j k=F) (fun k j=>j) m i ⟨Nat.le_refl _,by omega,h1,h2,hF⟩ ⟨rfl,rfl,rfl,rfl,rfl,rfl,rfl⟩ ⟨rfl,trivial⟩ (fun k j hj=>?_)
  obtain ⟨j1,j2,j3,j4,j5⟩:=hj
  have hkl:k.toList.length=k.size:=Array.length_toList
  clear hF h2 hd
  by_cases ha:a<j
  ·obtain ⟨q,rfl⟩:∃q,j=q+1:=⟨j-1,by omega⟩
   have ek:(((q+1:Nat):Int)-1).toNat=q:=by omega
   obtain ⟨u,u1,u2,hu,c⟩:=cmpR (k.toList.getD (q+1) 0) (k.toList.getD (((q+1:Nat):Int)-1).toNat 0) (j4.get (by omega)) (j4.get (by omega))
   rw [ek,getQ,getQ] at hu
   unfold Go.Sort.insInner at j5
   rw [decide_eq_true (show q+1>a from ha),Bool.true_and] at j5
   by_cases g:ltQ k[q+1]! k[q]! =true
   ·rw [if_pos g] at j5
    have g2:=hu.2 g
    clear hu g
    repeat' (first|refine wG ?_|refine wC c ?_|refine rg 4 14 ?_|refine rg 6 16 ?_|refine wS ?_ ?_<;>intro _|refine wB ?_ ?_)
    exact ⟨Go.Sort.swp k (q+1) q,q,⟨by omega,by omega,by rw [Go.Sort.size_swp];exact j3,j4.swp (by omega) (by omega),j5⟩,by omega,⟨rfl,rfl,rfl,rfl,rfl,iv (by omega),rfl⟩,blkSw,trivial⟩
   ·rw [if_neg g] at j5
    have g2:=mt hu.1 g
    clear hu g
    subst j5
    repeat' (first|refine wG ?_|refine wC c ?_|refine rg 4 14 ?_|refine rg 6 16 ?_|refine wS ?_ ?_<;>intro _|refine wB ?_ ?_)
    exact ⟨k,i+1,⟨j3,j4,by omega,by omega,h5⟩,by omega,⟨rfl,rfl,rfl,rfl,iv (by omega),rfl⟩,rfl,trivial⟩
  ·have e:k=F:=by
    rw [←j5]
    cases j with
    |zero=>rfl
    |succ q=>
     unfold Go.Sort.insInner
     rw [decide_eq_false (show ¬q+1>a from ha),Bool.false_and,if_neg (by decide)]
   subst e
   clear j5
   repeat' (first|refine wG ?_|refine rg 4 14 ?_|refine rg 6 16 ?_|refine wS ?_ ?_<;>intro _|refine wB ?_ ?_)
   exact ⟨k,i+1,⟨j3,j4,by omega,by omega,h5⟩,by omega,⟨rfl,rfl,rfl,rfl,iv (by omega),rfl⟩,rfl,trivial⟩
 ·rw [if_neg h] at h5
  subst h5
  repeat' (first|refine wG ?_|refine rg 4 14 ?_|refine rg 6 16 ?_|refine wS ?_ ?_<;>intro _|refine wB ?_ ?_)
  all_goals first|exact leVT|exact ⟨rfl,trivial⟩
def len8(x:Nat):Nat:=if x=0 then 0 else x.log2+1
theorem len8_le(x:Nat)(hx:x<256):len8 x≤8∧(0<x->2^len8 x≤2*x)∧x<2^len8 x:=by
 revert x
 decide+kernel
set_option maxRecDepth 100000 in
theorem bits_Len64(x:Nat)(hx:x<256):Ret Tryz.prog 222 [.int .u64 x] (·= .int .i64 (len8 x)):=by
 refine qAa tab Tryz.func222 rfl rfl (lblz rfl) (fun w0 F0=>?_)
 repeat' (first|refine wG ?_|refine wS ?_ ?_<;>intro _|refine finG ?_)
 ·refine stepQ false tt stt rfl rfl rfl ⟨by omega,Nat.lt_of_lt_of_le (show _<256 by omega) (lblz rfl)⟩ ?_
  refine qK8 22 rfl (fun n hn he=>?_)
  repeat' (first|refine wG ?_|refine wS ?_ ?_<;>intro _|refine finG ?_)
  have e:n=len8 x:=by
   rw [he]
   clear he
   revert x
   decide+kernel
  rw [e]
  congr 1<;>omega
theorem bits_Len(x:Nat)(hx:x<256):Ret Tryz.prog 198 [.int .u64 x] (·= .int .i64 (len8 x)):=by
 have h:=bits_Len64 x hx
 generalize len8 x=n at *
 refine qAa tab Tryz.func198 rfl rfl (lblz rfl) (fun w0 F0=>?_)
 repeat' (first|refine wG ?_|refine wC h ?_|refine wS ?_ ?_<;>intro _|refine finG ?_)
 rfl
theorem tmodFact(k n:Int)(h:0<n): -n<k.tmod n∧k.tmod n<n∧k%n=if k.tmod n<0 then k.tmod n+n else k.tmod n:=by
 have h1:=Int.tmod_lt_of_pos k h
 have h2:=Int.lt_tmod_of_pos k h
 have h3:=Int.emod_nonneg k (show n≠0 by omega)
 have h4:=Int.emod_lt_of_pos k h
 have e1:=Int.mul_tdiv_add_tmod k n
 have e2:=Int.mul_ediv_add_emod k n
 refine ⟨h2,h1,?_⟩
 have hd:n*(k.tdiv n-k/n)=k%n-k.tmod n:=by rw [Int.mul_sub];omega
 split
 ·have hb: -(2*n)<n*(k.tdiv n-k/n)∧n*(k.tdiv n-k/n)<2*n∧0<n*(k.tdiv n-k/n):=by omega
  have h5:0<k.tdiv n-k/n:=Int.pos_of_mul_pos_right hb.2.2 h
  have h6:k.tdiv n-k/n<2:=by
   rcases Int.lt_or_le (k.tdiv n-k/n) 2 with h7|h7
   ·exact h7
   ·have:=Int.mul_le_mul_of_nonneg_left h7 (Int.le_of_lt h);omega
  rw [show k.tdiv n-k/n=1 by omega] at hd
  omega
 ·have hb: -n<n*(k.tdiv n-k/n)∧n*(k.tdiv n-k/n)<n:=by omega
  have h5: -1<k.tdiv n-k/n:=by
   rcases Int.lt_or_le (-1) (k.tdiv n-k/n) with h7|h7
   ·exact h7
   ·have:=Int.mul_le_mul_of_nonneg_left h7 (Int.le_of_lt h);omega
  have h6:k.tdiv n-k/n<1:=by
   rcases Int.lt_or_le (k.tdiv n-k/n) 1 with h7|h7
   ·exact h7
   ·have:=Int.mul_le_mul_of_nonneg_left h7 (Int.le_of_lt h);omega
  rw [show k.tdiv n-k/n=0 by omega] at hd
  omega
set_option maxHeartbeats 4000000
def I64(l:List Int):Prop:=∀x∈l, -9223372036854775808≤x∧x<9223372036854775808
theorem I64.getD{l:List Int}(h:I64 l)(i:Nat): -9223372036854775808≤l.getD i 0∧l.getD i 0<9223372036854775808:=by
 rw [List.getD_eq_getElem?_getD]
 by_cases hi:i<l.length
 ·rw [List.getElem?_eq_getElem hi];exact h _ (List.getElem_mem hi)
 ·rw [List.getElem?_eq_none (by omega)];decide
theorem qKi(a b:Int)(ha: -10000000≤a)(ha2:a<10000000)(hb:0<b)(hb2:b<10000000):Ret Tryz.prog 51 [.int .i64 a,.int .i64 b] (·=qD (Rat.divInt a b)):=qS1 a b (by omega) (by omega) (by omega) (by omega) (by omega)
theorem qBc(v:Int)(h1: -9223372036854775808≤v)(h2:v<9223372036854775808):Ret Tryz.prog 27 [.int .i64 v] (·=qD (v:Rat)):=by
 have:=qM9 v h1 h2
 rw [←rq_int] at this
 exact this
theorem qF6{v:Int}(h:v.natAbs<18446744073709551616):okQ 10 (v:Rat):=by
 refine ⟨?_,?_⟩
 ·rw [Rat.num_intCast];exact Nat.lt_of_le_of_lt (qKd h) (by decide)
 ·rw [Rat.den_intCast,limbs_one];decide
end Go.Proofs.YtejigedigmagdaaGreat
set_option linter.unusedSectionVars false
namespace Go.Vw
open Go.RowKit Go.ChangeShapes Go.WideShapes
mutual
inductive Ty where
 |int (k:IntKind)
 |bool
 |str
 |struct (fs:Tys)
 |slice (e:Ty)
inductive Tys where
 |nil
 |cons (t:Ty) (ts:Tys)
end
mutual
def Ty.Val:Ty->Type
 | .int _=>Int
 | .bool=>Bool
 | .str=>List UInt8
 | .struct fs=>fs.Val
 | .slice e=>List e.Val
def Tys.Val:Tys->Type
 | .nil=>Unit
 | .cons t ts=>t.Val×ts.Val
end
mutual
def Ty.zero:(t:Ty)->t.Val
 | .int _=>(0:Int)
 | .bool=>false
 | .str=>([]:List UInt8)
 | .struct fs=>fs.zero
 | .slice e=>([]:List e.Val)
def Tys.zero:(ts:Tys)->ts.Val
 | .nil=>()
 | .cons t ts=>(t.zero,ts.zero)
end
mutual
def Ty.width:Ty->Nat
 | .int _=>1
 | .bool=>1
 | .str=>1
 | .struct fs=>fs.width
 | .slice _=>1
def Tys.width:Tys->Nat
 | .nil=>0
 | .cons t ts=>t.width+ts.width
end
mutual
def Ty.cells:(t:Ty)->t.Val->List D
 | .int k,(n:Int)=>[.int k n]
 | .bool,(b:Bool)=>[.bool b]
 | .str,(s:List UInt8)=>[.str s]
 | .struct fs,v=>fs.cells v
 | .slice e,(l:List e.Val)=>[.sl e.width e.cells e.zero l]
def Tys.cells:(ts:Tys)->ts.Val->List D
 | .nil,_=>[]
 | .cons t ts,v=>t.cells v.1++ts.cells v.2
end
mutual
def Ty.wf:(t:Ty)->t.Val->Prop
 | .int k,(n:Int)=>(Lit.int k n).wf=true
 | .bool,_=>True
 | .str,(s:List UInt8)=>s.length≤maxLen
 | .struct fs,v=>fs.wf v
 | .slice e,(l:List e.Val)=>l.length≤maxLen∧∀a∈l,e.wf a
def Tys.wf:(ts:Tys)->ts.Val->Prop
 | .nil,_=>True
 | .cons t ts,v=>t.wf v.1∧ts.wf v.2
end
mutual
def Ty.ok(P:Program):Ty->TypeId->Bool
 | .int k,t=>match P.underlying t with|some (.int k')=>decide (k'=k)|_=>false
 | .bool,t=>match P.underlying t with|some .bool=>true|_=>false
 | .str,t=>match P.underlying t with|some .string=>true|_=>false
 | .struct fs,t=>match P.underlying t with|some (.struct fields)=>Nat.beq (P.cellsOf t) fs.width&&Tys.ok P fs fields.toList 0|_=>false
 | .slice e,t=>match P.underlying t with|some (.slice te)=>Nat.beq (P.cellsOf te) e.width&&Nat.blt 0 e.width&&Ty.ok P e te|_=>false
def Tys.ok(P:Program):Tys->List Field->Nat->Bool
 | .nil,fs,_=>match fs with|[]=>true|_::_=>false
 | .cons t ts,fs,off=>match fs with
  |f::fs=>Nat.beq f.offset off&&Nat.beq (P.cellsOf f.type) t.width&&Ty.ok P t f.type&&Tys.ok P ts fs (off+t.width)
  |[]=>false
end
mutual
theorem Ty.cells_len:∀(t:Ty) (v:t.Val),(t.cells v).length=t.width
 | .int k,v=>rfl
 | .bool,v=>rfl
 | .str,v=>rfl
 | .struct fs,v=>by simp only [Ty.cells,Ty.width];exact Tys.cells_len fs v
 | .slice e,v=>rfl
theorem Tys.cells_len:∀(ts:Tys) (v:ts.Val),(ts.cells v).length=ts.width
 | .nil,v=>rfl
 | .cons t ts,v=>by simp only [Tys.cells,Tys.width,List.length_append];rw [Ty.cells_len t v.1,Tys.cells_len ts v.2]
end
def allF(w:World):Nat->Prop:=fun b=>b<w.heap.size
section
variable {H:Type} {enc:TypeId×Value->H} {P:Program} {w:World} {held:Bool}
theorem qSe{F:Nat->Prop}{g:Nat->Option Value}{off:Nat}{x:D}{v:Value}(h0:g off=some v)(h1:v.oneCell'=true)(h:DR F w x v):DRA F w g off [x]:=by
 simp only [DRA];exact ⟨⟨v,h0,h1,h⟩,trivial⟩
theorem dra_app{F:Nat->Prop}{g:Nat->Option Value}{xs ys:List D}{off:Nat}(h:DRA F w g off xs)(k:DRA F w g (off+xs.length) ys):DRA F w g off (xs++ys):=by
 rw [DRA_iff] at h k ⊢
 intro i c hi
 by_cases hl:i<xs.length
 ·rw [List.getElem?_append_left hl] at hi;exact h i c hi
 ·rw [List.getElem?_append_right (by omega)] at hi
  obtain ⟨v,h1,h2⟩:=k _ c hi
  exact ⟨v,by rw [←h1];congr 1;omega,h2⟩
theorem row_of_cells{a:Addr}{n:Nat}{cs:List Value}(h:w.cells? 0 a n=some cs)(hn:0<n):∃b o arr ty fz,a=⟨b,o,none⟩∧w.heap[b]? =some (.cells arr ty fz):=by
 obtain ⟨_,hl,hc⟩:=World.cells?_some h
 have h0:=hc 0 hn
 rw [List.getElem?_eq_getElem (by omega)] at h0
 obtain ⟨b,o,sp⟩:=a
 unfold World.cell? at h0
 split at h0
 ·rename_i c ty fz hh
  split at h0
  ·cases h0
  ·rename_i hs
   cases sp with
   |none=>exact ⟨b,o,c,ty,fz,rfl,hh⟩
   |some s=>exact absurd rfl hs
 ·cases h0
mutual
theorem Ty.reads:∀(ty:Ty) (fuel:Nat) (t:TypeId) (cs:List Value) (x:DataW H×List MemPlace),ty.ok P t=true->DataW.trod enc P w 0 (fun _=>true) held fuel t cs=some x->∃v:ty.Val,ty.wf v∧cs.length=ty.width∧DRA (allF w) w (fun i=>cs[i]?) 0 (ty.cells v)
 | .int k,fuel,t,cs,x,hok,h=>by
  simp only [Ty.ok] at hok
  split at hok
  ·rename_i k' hu
   have hk:=of_decide_eq_true hok
   subst hk
   obtain ⟨n,rfl,_,hw⟩:=DataW.trod_int hu h
   exact ⟨(n:Int),hw,rfl,qSe rfl rfl (by simp only [DR])⟩
  ·cases hok
 | .bool,fuel,t,cs,x,hok,h=>by
  simp only [Ty.ok] at hok
  split at hok
  ·rename_i hu
   obtain ⟨b,rfl,_⟩:=DataW.trod_bool hu h
   exact ⟨(b:Bool),trivial,rfl,qSe rfl rfl (by simp only [DR])⟩
  ·cases hok
 | .str,fuel,t,cs,x,hok,h=>by
  simp only [Ty.ok] at hok
  split at hok
  ·rename_i hu
   obtain ⟨s,rfl,_,hs⟩:=DataW.trod_string hu h
   refine ⟨(s.data.toList:List UInt8),?_,rfl,qSe rfl rfl (by simp only [DR])⟩
   simp only [Ty.wf]
   rw [Array.length_toList];exact hs
  ·cases hok
 | .struct fs,fuel,t,cs,x,hok,h=>by
  simp only [Ty.ok] at hok
  split at hok
  ·rename_i fields hu
   simp only [Bool.and_eq_true] at hok
   obtain ⟨hw,hf⟩:=hok
   have hw:=Nat.eq_of_beq_eq_true hw
   obtain ⟨xs,n,rfl,_,hl,hxl,hx⟩:=DataW.trod_struct hu h
   have hall:∀(i:Nat) (f:Field),fields.toList[i]? =some f->∃y,DataW.trod enc P w 0 (fun _=>true) held n f.type ((cs.drop f.offset).take (P.cellsOf f.type))=some y:=fun i f hi=>by
    rw [Array.getElem?_toList] at hi
    have hlt:=(Array.getElem?_eq_some_iff.1 hi).1
    have:=hx i f hi
    rw [List.getElem?_eq_getElem (by omega)] at this
    exact ⟨_,this⟩
   obtain ⟨v,h1,h2⟩:=Tys.reads fs n fields.toList 0 cs hf hall
   exact ⟨v,h1,by rw [hl,hw];rfl,h2⟩
  ·cases hok
 | .slice e,fuel,t,cs,x,hok,h=>by
  simp only [Ty.ok] at hok
  split at hok
  ·rename_i te hu
   simp only [Bool.and_eq_true,Nat.blt_eq] at hok
   obtain ⟨⟨hw,hw0⟩,he⟩:=hok
   have hw:=Nat.eq_of_beq_eq_true hw
   rcases Go.Deep.open_slice hu h with ⟨rfl,_⟩|⟨a,len,cap,m,n,Dx,Pl,rfl,hb,hlc,hcm,hm,_,hi⟩
   ·exact ⟨([]:List e.Val),⟨by simp,fun a h=>by simp at h⟩,rfl,qSe rfl rfl (by simp only [DR];exact .inl ⟨⟨_,_,rfl⟩,trivial⟩)⟩
   ·have hlm:len≤m:=by rw [hm];split<;>omega
    have each:∀i,i<len->∃v:e.Val,e.wf v∧∃cs',w.cells? 0 (a.add (i*P.cellsOf te)) (P.cellsOf te)=some cs'∧DRA (allF w) w (fun j=>cs'[j]?) 0 (e.cells v):=fun i hlt=>by
     obtain ⟨cs',h1,h2⟩:=hi i (by omega)
     obtain ⟨v,q1,q2,q3⟩:=Ty.reads e n te cs' _ he h2
     exact ⟨v,q1,cs',h1,q3⟩
    have:∃V:Nat->e.Val,∀i,i<len->(e.wf (V i)∧∃cs',w.cells? 0 (a.add (i*P.cellsOf te)) (P.cellsOf te)=some cs'∧DRA (allF w) w (fun j=>cs'[j]?) 0 (e.cells (V i))):=
     ⟨fun i=>if h:i<len then (each i h).choose else e.zero,fun i h=>by
      simp only [h,dif_pos]
      exact (each i h).choose_spec⟩
    obtain ⟨V,hV⟩:=this
    refine ⟨((List.range len).map V:List e.Val),⟨by simp;omega,fun v hv=>?_⟩,rfl,qSe rfl rfl ?_⟩
    ·simp only [List.mem_map,List.mem_range] at hv
     obtain ⟨i,hlt,rfl⟩:=hv
     exact (hV i hlt).1
    simp only [DR]
    simp only [if_true] at hm
    by_cases hc0:cap=0
    ·have hl0:len=0:=by omega
     subst hl0 hc0
     exact .inl ⟨⟨_,_,rfl⟩,by simp⟩
    ·obtain ⟨cs0,h0,_⟩:=hi 0 (by omega)
     rw [Nat.zero_mul,show a.add 0=a by simp [Addr.add]] at h0
     obtain ⟨b,o,arr,ty,fz,ha,hh⟩:=row_of_cells h0 (by omega)
     have ha':a=⟨b,a.off,none⟩:=by subst ha;rfl
     refine .inr ⟨b,a.off,cap,arr,ty,fz,by rw [ha'];simp,by simpa using hlc,qBl hh,hh,fun i v hv=>?_⟩
     have hlt:i<len:=by have:=(List.getElem?_eq_some_iff.1 hv).1;simpa using this
     simp [hlt] at hv
     subst hv
     obtain ⟨_,cs',h1,h2⟩:=hV i hlt
     refine ⟨Ty.cells_len _ _,?_⟩
     obtain ⟨_,hcl,hcc⟩:=World.cells?_some h1
     rw [DRA_iff] at h2 ⊢
     intro j c hj
     obtain ⟨u,p1,p2⟩:=h2 j c hj
     have hjl:=(List.getElem?_eq_some_iff.1 hj).1
     rw [Ty.cells_len] at hjl
     refine ⟨u,?_,p2⟩
     have h3:=hcc j (by omega)
     rw [Nat.zero_add] at p1
     rw [p1,ha',qDy,qDy] at h3
     simp only [World.cell?,hh] at h3
     rw [←hw]
     simpa using h3
  ·cases hok
theorem Tys.reads:∀(ts:Tys) (n:Nat) (fields:List Field) (off:Nat) (cs:List Value),ts.ok P fields off=true->(∀(i:Nat) (f:Field),fields[i]? =some f->∃y,DataW.trod enc P w 0 (fun _=>true) held n f.type ((cs.drop f.offset).take (P.cellsOf f.type))=some y)->∃v:ts.Val,ts.wf v∧DRA (allF w) w (fun i=>cs[i]?) off (ts.cells v)
 | .nil,n,fields,off,cs,hok,h=>⟨(),trivial,by simp only [Tys.cells,DRA]⟩
 | .cons t ts,n,fields,off,cs,hok,h=>by
  simp only [Tys.ok] at hok
  split at hok
  ·rename_i f fs
   simp only [Bool.and_eq_true] at hok
   obtain ⟨⟨⟨h1,h2⟩,h3⟩,h4⟩:=hok
   have h1:=Nat.eq_of_beq_eq_true h1
   have h2:=Nat.eq_of_beq_eq_true h2
   obtain ⟨y,hy⟩:=h 0 f rfl
   obtain ⟨v,q1,q2,q3⟩:=Ty.reads t n f.type _ y h3 hy
   obtain ⟨v2,r1,r2⟩:=Tys.reads ts n fs (off+t.width) cs h4 (fun i g hg=>h (i+1) g (by simpa using hg))
   refine ⟨(v,v2),⟨q1,r1⟩,?_⟩
   simp only [Tys.cells]
   refine dra_app ?_ (by rw [Ty.cells_len];exact r2)
   rw [DRA_iff] at q3 ⊢
   intro i c hi
   obtain ⟨u,p1,p2⟩:=q3 i c hi
   have hlt:=(List.getElem?_eq_some_iff.1 hi).1
   rw [Ty.cells_len] at hlt
   refine ⟨u,?_,p2⟩
   rw [Nat.zero_add,List.getElem?_take,if_pos (by omega),List.getElem?_drop,h1] at p1
   exact p1
  ·cases hok
end
def Ty.top:(t:Ty)->t.Val->D
 | .int k,(n:Int)=>.int k n
 | .bool,(b:Bool)=>.bool b
 | .str,(s:List UInt8)=>.str s
 | .struct fs,v=>.agg (fs.cells v)
 | .slice e,(l:List e.Val)=>.sl e.width e.cells e.zero l
theorem Ty.topReads{r:Reach}{b0:Nat}:∀(ty:Ty) (t:TypeId) (v:Value) (d:DataW H) (ps:List MemPlace),ty.ok P t=true->Value.okWide P w r b0 t v->DataW.Trod enc P w 0 (fun _=>true) held t v d ps->∃x:ty.Val,ty.wf x∧DR (allF w) w (ty.top x) v:=fun ty t v d ps hok hv h=>by
 obtain ⟨fuel,h⟩:=h
 obtain ⟨x,h1,h2,h3⟩:=Ty.reads ty fuel t _ _ hok h
 refine ⟨x,h1,?_⟩
 have one:∀(y:D),v.cells.toList=[v]->DRA (allF w) w (fun i=>v.cells.toList[i]?) 0 [y]->DR (allF w) w y v:=fun y e hd=>by
  rw [e] at hd
  simp only [DRA] at hd
  obtain ⟨⟨u,hu,_,hd⟩,_⟩:=hd
  simp at hu;subst hu;exact hd
 cases ty with
 |int k=>
  simp only [Ty.ok] at hok
  split at hok
  ·rename_i k' hu
   refine one _ ?_ h3
   cases v<;>first|rfl|(simp [Value.okWide,hu,Cell.okWide,Cell.ok] at hv)
  ·cases hok
 |bool=>
  simp only [Ty.ok] at hok
  split at hok
  ·rename_i hu
   refine one _ ?_ h3
   cases v<;>first|rfl|(simp [Value.okWide,hu,Cell.okWide,Cell.ok] at hv)
  ·cases hok
 |str=>
  simp only [Ty.ok] at hok
  split at hok
  ·rename_i hu
   refine one _ ?_ h3
   cases v<;>first|rfl|(simp [Value.okWide,hu,Cell.okWide,Cell.ok] at hv)
  ·cases hok
 |struct fs=>
  simp only [Ty.ok] at hok
  split at hok
  ·rename_i fields hu
   simp only [Value.okWide,hu] at hv
   obtain ⟨arr,rfl,hs,_⟩:=hv
   simp only [Ty.top,DR]
   refine ⟨arr,rfl,?_,?_⟩
   ·have hc:=Tys.cells_len fs x
    have h2':arr.size=fs.width:=by simpa [Value.cells,Ty.width] using h2
    exact h2'.trans hc.symm
   ·rw [DRA_iff] at h3 ⊢
    intro i c hi
    obtain ⟨u,p1,p2⟩:=h3 i c hi
    exact ⟨u,by simpa [Value.cells] using p1,p2⟩
  ·cases hok
 |slice e=>
  simp only [Ty.ok] at hok
  split at hok
  ·rename_i te hu
   refine one _ ?_ h3
   cases v<;>first|rfl|(simp [Value.okWide,hu,Cell.okWide,Cell.ok] at hv)
  ·cases hok
def Tys.tops:(ts:Tys)->ts.Val->List D
 | .nil,_=>[]
 | .cons t ts,v=>t.top v.1::ts.tops v.2
def Tys.oks(P:Program):Tys->List TypeId->Bool
 | .nil,l=>match l with|[]=>true|_::_=>false
 | .cons t ts,l=>match l with|a::r=>Ty.ok P t a&&Tys.oks P ts r|[]=>false
theorem Tys.tops_len:∀(ts:Tys) (l:List TypeId) (v:ts.Val),ts.oks P l=true->(ts.tops v).length=l.length
 | .nil,[],_,_=>rfl
 | .nil,_::_,_,h=>by simp [Tys.oks] at h
 | .cons t ts,[],_,h=>by simp [Tys.oks] at h
 | .cons t ts,a::r,v,h=>by
  simp only [Tys.oks,Bool.and_eq_true] at h
  simp only [Tys.tops,List.length_cons,Tys.tops_len ts r v.2 h.2]
theorem Tys.topsRead{r:Reach}{b0:Nat}:∀(tys:Tys) (ts:List TypeId) (vs:List Value) (ds:List (DataW H)) (ps:List MemPlace),tys.oks P ts=true->(∀(j:Nat) t v,ts[j]? =some t->vs[j]? =some v->Value.okWide P w r b0 t v)->DataW.TrodAll enc P w 0 (fun _=>true) held ts vs ds ps->∃x:tys.Val,tys.wf x∧vs.length=ts.length∧∀g off,(∀i,g (off+i)=vs[i]?)->DRT (allF w) w g off (tys.tops x)
 | .nil,[],vs,ds,ps,_,_,h=>by
  cases vs<;>cases ds<;>first|(exact absurd h id)|exact ⟨(),trivial,rfl,fun g off _=>by simp only [Tys.tops,DRT]⟩
 | .nil,_::_,_,_,_,hok,_,_=>by simp [Tys.oks] at hok
 | .cons t ts,[],_,_,_,hok,_,_=>by simp [Tys.oks] at hok
 | .cons t ts,a::r',vs,ds,ps,hok,hv,h=>by
  simp only [Tys.oks,Bool.and_eq_true] at hok
  cases vs with
  |nil=>cases ds<;>exact absurd h id
  |cons v vs=>
   cases ds with
   |nil=>exact absurd h id
   |cons d ds=>
    obtain ⟨p,q,h1,h2,_⟩:=h
    obtain ⟨x,g1,g2⟩:=Ty.topReads t a v d p hok.1 (hv 0 a v rfl rfl) h1
    obtain ⟨y,k1,k2,k3⟩:=Tys.topsRead ts r' vs ds q hok.2 (fun j t' v' e1 e2=>hv (j+1) t' v' (by simpa using e1) (by simpa using e2)) h2
    refine ⟨(x,y),⟨g1,k1⟩,by simp [k2],fun g off hg=>?_⟩
    simp only [Tys.tops,DRT]
    refine ⟨⟨v,by simpa using hg 0,g2⟩,k3 g (off+1) (fun i=>?_)⟩
    rw [Nat.add_assoc,Nat.add_comm 1 i,hg (i+1)];simp
end
end Go.Vw
namespace Go.Vw
open Go.ChangeShapes Go.WideShapes Go.ChangeAt Go.RowKit
theorem post_below{H:Type}{enc:TypeId×Value->H}{P:Program}{f:Func}{s:ChangeSpec}{apart fresh handsOn again:Bool}{W W':World}{args:Array Value}{v:Value}{ds gs:List (DataW H)}{before pa pv:List MemPlace}
    (hW:DataW.Whole enc P f.params.toList s.vars apart W args.toList ds gs before)
    (hres:∀(b:Nat) (sp:Nat->Bool) (hd:Bool),DataW.TrodAll enc P W' b sp hd f.resultTypes.toList (v.resultList f.resultTypes.size) (s.fn H (ds++gs)).results [])
    (hargs:∀sp:Nat->Bool,(∀p∈before,sp p.block=true)->DataW.TrodAll enc P W' 0 sp true f.params.toList args.toList (s.fn H (ds++gs)).args pa)
    (hvars:∀sp:Nat->Bool,(∀p∈before,sp p.block=true)->DataW.TrodVars enc P W' sp s.vars (s.fn H (ds++gs)).vars pv)
    (hps:before=pa++pv) (hb:Below W.heap.size W W')
    (hok:∀(j:Nat) (t:TypeId) (r:Value),f.resultTypes[j]? =some t->(v.resultList f.resultTypes.size)[j]? =some r->Value.okWide P W' .any 0 t r):
    s.post enc P f apart fresh handsOn again W args v W':=by
  have hlt:=hW.lt
  have hin:∀p∈before,(fun b=>decide (b<W.heap.size)) p.block=true:=fun p hp=>decide_eq_true (hlt p hp)
  obtain ⟨_,_,_,_,_,hz,hn⟩:=id hW
  refine ⟨ds,gs,before,[],pa,pv,hW,hres _ _ _,hargs _ hin,hvars _ hin,hb.frame _,fun _=>⟨hok,_,_,([]++pa)++pv,⟨[]++pa,pv,trodAll_append (hargs _ fun _ _=>rfl) (hres _ _ _),hvars _ fun _ _=>rfl,rfl,fun b off hp=>?_,fun ha=>?_⟩,fun p hp _=>?_⟩⟩
  · have hp':MemPlace.cell b off∈before:=by rw [hps];simpa using hp
    rw [hb.frozen (hlt _ hp')]
    exact hz b off hp'
  · have:=hn ha
    rw [hps] at this
    simpa using this
  · rw [hps];simpa using hp
theorem qMz{H:Type}{enc:TypeId×Value->H}{P:Program}{W W':World}{sp':Nat->Bool}(hl:laidOutB P=true):∀{ts:List TypeId} {vs:List Value} {ds:List (DataW H)} {ps:List MemPlace},(ts.all fun t=>P.readableRec t&&decide (t<P.types.size))=true->DataW.TrodAll enc P W 0 (fun _=>true) true ts vs ds ps->(∀p∈ps,W.sameAt W' p)->(∀p∈ps,sp' p.block=true)->DataW.TrodAll enc P W' 0 sp' true ts vs ds ps
 |[],[],[],_,_,h,_,_=>h
 |[],_::_,_,_,_,h,_,_=>absurd h id
 |[],[],_::_,_,_,h,_,_=>absurd h id
 |_::_,[],_,_,_,h,_,_=>absurd h id
 |_::_,_::_,[],_,_,h,_,_=>absurd h id
 |t::ts,v::vs,d::ds,_,ht,⟨p,q,h1,h2,e⟩,hsame,hs=>by
  subst e
  simp only [List.all_cons,Bool.and_eq_true,decide_eq_true_eq] at ht
  exact ⟨p,q,WideElems.Trod_stays hl ht.1.1 ht.1.2 h1 (fun x hx=>hsame x (by simp [hx])) (fun x hx=>hs x (by simp [hx])),qMz hl ht.2 h2 (fun x hx=>hsame x (by simp [hx])) (fun x hx=>hs x (by simp [hx])),rfl⟩
theorem law_contract{P:Program}{f:FuncId}{fn:Func}{s:ChangeSpec}{rt:TypeId}(tys:Tys)(hl:laidOutB P=true)(hok:tys.oks P fn.params.toList=true)(hp:(fn.params.toList.all fun t=>P.readableRec t&&decide (t<P.types.size))=true)(hv:s.vars=[])(hr:fn.resultTypes= #[rt])(hrt:P.underlying rt=some .bool)(hc:∀x:tys.Val,tys.wf x->Ret P f (tys.tops x) (·= .bool true))
    (H:Type) (enc:TypeId×Value->H) (hs:∀ds:List (DataW H),ds.length=fn.params.toList.length->(s.fn H ds).results=[.lit (.bool true)]∧(s.fn H ds).args=ds∧(s.fn H ds).vars=[])
    (W:World) (base:Nat) (args:Array Value) (ds gs:List (DataW H)) (before:List MemPlace)
    (hval:∀(j:Nat) t v,fn.params[j]? =some t->args[j]? =some v->Value.okWide P W .any base t v)
    (hW:DataW.Whole enc P fn.params.toList s.vars false W args.toList ds gs before):
    Calls P f args W fun e W'=>∃v,e= .returned v∧s.post enc P fn false true false false W args v W':=by
  have hW':=hW
  have hlt:=hW.lt
  obtain ⟨p,q,hA,hV,rfl,hfz,hnd⟩:=hW
  rw [hv] at hV
  obtain ⟨rfl,rfl⟩:=trodVars_none hV
  obtain ⟨x,hx,hlen,hd⟩:=Tys.topsRead tys fn.params.toList args.toList ds p hok (fun j t v h1 h2=>hval j t v (by simpa using h1) (by simpa using h2)) hA
  have hdl:ds.length=fn.params.toList.length:=by
    have aux:∀(ts:List TypeId) (vs:List Value) (ds:List (DataW H)) (ps:List MemPlace),DataW.TrodAll enc P W 0 (fun _=>true) true ts vs ds ps->ds.length=ts.length:=by
      intro ts
      induction ts with
      |nil=>intro vs ds ps h;cases vs<;>cases ds<;>first|(exact absurd h id)|rfl
      |cons t ts ih=>
        intro vs ds ps h
        cases vs with
        |nil=>cases ds<;>exact absurd h id
        |cons v vs=>cases ds with
          |nil=>exact absurd h id
          |cons d ds=>obtain ⟨_,q,_,h2,_⟩:=h;simp [ih _ _ _ h2]
    exact aux _ _ _ _ hA
  obtain ⟨s1,s2,s3⟩:=hs ds hdl
  have ht:=Tys.tops_len tys fn.params.toList x hok
  refine ((hc x hx).run (allF W) W args (fun b h=>h) (by rw [ht,←hlen];simp) (hd _ 0 (fun i=>by simp))).mono fun e W' ⟨v,r,F',he,hr',hb,_,_,hv'⟩=>?_
  subst he hr'
  simp only [Vw.DR] at hv'
  subst hv'
  refine ⟨_,rfl,post_below (pa:=p) (pv:=[]) hW' ?_ ?_ ?_ rfl hb ?_⟩
  · intro b sp hd'
    simp only [List.append_nil,s1,hr]
    exact trodAll_cons_mk (shut_bool hrt _) trodAll_mk0
  · intro sp hsp
    simp only [List.append_nil,s2]
    exact qMz hl hp hA (fun y hy=>hb.same (hlt y (by simp [hy]))) (fun y hy=>hsp y (by simp [hy]))
  · intro sp hsp
    simp only [List.append_nil,s3,hv]
    rfl
  · exact ok_one hr rfl (okWide_bool_mk hrt _)
end Go.Vw
namespace Go.Vw
structure RawR (r:R3):Prop where
 wm:WF r.2.1
 wd:WF r.2.2
 lm:r.2.1.length≤9223372036854775807
 ld:r.2.2.length≤9223372036854775807
theorem i64_wf{z:Int}(h:(Lit.int .i64 z).wf=true): -9223372036854775808≤z∧z<9223372036854775808:=by
 simp [Lit.wf,IntKind.min,IntKind.max,IntKind.signed,IntKind.bits] at h
 omega
end Go.Vw
