/-
 Contracts of functions of the program, and the layer that they are walked with: PolM PolN PolS PolT PolU PolV PolX PolY HubA HubB HubC HubD VT VCl Z01. Conditions: as each says.
-/
import Derived.Test.YtejigedigmagdaaGreatA07
set_option linter.unnecessarySimpa false
set_option linter.unusedVariables false
set_option linter.unusedSimpArgs false
namespace Go.Vw
def HtQ(h l:Nat)(r q:List Rat):Prop:=∃(c:Int) (P Q:Nat->Int),c≠0∧ln c.natAbs<h∧(∀i,ln (P i).natAbs<h∧cf r i=Rat.divInt (P i) c)∧∀i,ln (Q i).natAbs<h+l∧cf q i=Rat.divInt (Q i) c
theorem HtQ.mono{h k l:Nat}{r q:List Rat}(H:HtQ h l r q)(hk:h≤k):HtQ k l r q:=by
 obtain ⟨c,P,Q,c0,hc,hp,hq⟩:=H
 exact ⟨c,P,Q,c0,by omega,fun i=>⟨by have:=(hp i).1;omega,(hp i).2⟩,fun i=>⟨by have:=(hq i).1;omega,(hq i).2⟩⟩
theorem HtQ.out{h l:Nat}{r q:List Rat}(H:HtQ h l r q):HtP (h+l) q:=by
 obtain ⟨c,P,Q,c0,hc,hp,hq⟩:=H
 exact ⟨c,Q,c0,by omega,hq⟩
theorem HtQ.start{h l:Nat}{r:List Rat}(H:HtP h r):HtQ h l r []:=by
 obtain ⟨c,P,c0,hc,hp⟩:=H
 exact ⟨c,P,fun _=>0,c0,hc,hp,fun i=>⟨by show ln 0<h+l;rw [qF7];omega,(Rat.zero_divInt c).symm⟩⟩
theorem HtQ.step{h l:Nat}{r q d:List Rat}(H:HtQ h l r q)(L:HtP l d)(hd:lead d≠0)(e:∀i,cf (qD2 q r d) i=if i=remK r d then remC r d else cf q i):HtQ (h+l) l (stepRP r d) (qD2 q r d):=by
 obtain ⟨c,R,Q,c0,hc,hr,hq⟩:=H
 obtain ⟨f,E,e0,he,hE⟩:=L
 have e1:=(hE (d.length-1)).2
 have e2:=(hr (r.length-1)).2
 have hne:=qSf (a:=E (d.length-1)) (c:=f) (by rw [←e1];exact hd)
 have l0:=(hE (d.length-1)).1
 have r0':=(hr (r.length-1)).1
 refine ⟨c*E (d.length-1),fun i=>R i*E (d.length-1)-(if i<remK r d then 0 else R (r.length-1)*E (i-remK r d)),fun i=>if i=remK r d then R (r.length-1)*f else Q i*E (d.length-1),Int.mul_ne_zero c0 hne,?_,fun i=>⟨?_,?_⟩,fun i=>?_⟩
 ·have:=qDo hc l0;omega
 ·have h1:=qDo (hr i).1 l0
  have h2:ln (if i<remK r d then 0 else R (r.length-1)*E (i-remK r d)).natAbs<h+l-1:=by
   split
   ·show ln 0<_;rw [qF7];omega
   ·exact qDo r0' (hE (i-remK r d)).1
  have:=ln_subZ h1 h2
  dsimp only
  omega
 ·rw [qK7,(hr i).2]
  dsimp only
  split
  ·rw [Int.sub_zero,qCq hne];grind
  ·have hq:remC r d*cf d (i-remK r d)=Rat.divInt (R (r.length-1)*E (i-remK r d)) (c*E (d.length-1)):=by
    unfold remC lead
    rw [e1,e2,(hE (i-remK r d)).2,qHp c0 hne e0,Rat.divInt_mul_divInt]
    rw [show R (r.length-1)*f*E (i-remK r d)=R (r.length-1)*E (i-remK r d)*f by rw [Int.mul_assoc,Int.mul_assoc,Int.mul_comm f],qCq e0]
   rw [hq,←qCq (a:=R i) (c:=c) hne,Rat.sub_eq_add_neg,Rat.neg_divInt,Rat.divInt_add_divInt _ _ (Int.mul_ne_zero c0 hne) (Int.mul_ne_zero c0 hne),←Int.add_mul,qCq (Int.mul_ne_zero c0 hne),←Int.sub_eq_add_neg]
 ·rw [e]
  dsimp only
  split
  ·refine ⟨by have:=qDo r0' he;omega,?_⟩
   unfold remC lead
   rw [e1,e2,qHp c0 hne e0]
  ·refine ⟨by have:=qDo (hq i).1 l0;omega,?_⟩
   rw [(hq i).2,qCq hne]
theorem stepQP_cf{q r d:List Rat}(dl:d.length≤r.length)(a2:∀i,i+d.length≤r.length->cf q i=0)(i:Nat):cf (qD2 q r d) i=if i=remK r d then remC r d else cf q i:=by
 unfold qD2
 rw [qBi,qBg,qBu]
 by_cases g:i=remK r d
 ·subst g
  rw [if_neg (by omega),Nat.sub_self,cf_zero,if_pos rfl,a2 _ (by unfold remK;omega),Rat.zero_add]
 ·rw [if_neg g]
  split
  ·rw [Rat.add_zero]
  ·rw [qCr (p:=[remC r d]) (by show 1≤i-remK r d;omega),Rat.add_zero]
theorem divL_ht2{d:List Rat}{l:Nat}(hd:Tr d)(d0:d≠[])(L:HtP l d):∀(n h:Nat) (q r:List Rat),Tr r->HtQ h l r q->(∀i,i+d.length≤r.length->cf q i=0)->HtQ (h+(r.length+1-d.length)*l) l (divL n q r d).2 (divL n q r d).1
 |0,h,q,r,hr,H,a2=>H.mono (by omega)
 |n+1,h,q,r,hr,H,a2=>by
  unfold divL
  split
  ·exact H.mono (by omega)
  ·rename_i hl
   have h1:=qE6 hr hd d0 (by omega)
   have e:=stepQP_cf (by omega) a2
   have h2:=divL_ht2 hd d0 L n (h+l) (qD2 q r d) (stepRP r d) (qAl _) (H.step L (qCo hd d0) e) (fun i hi=>by
    rw [e,if_neg (by unfold remK;omega)]
    exact a2 i (by omega))
   refine h2.mono ?_
   obtain ⟨m,hm⟩:∃m,r.length+1-d.length=m+1:=⟨r.length-d.length,by omega⟩
   have h3:((stepRP r d).length+1-d.length)*l≤m*l:=Nat.mul_le_mul_right _ (by omega)
   rw [hm,Nat.add_mul]
   omega
theorem divP_ht{p d:List Rat}{h l:Nat}(hp:Tr p)(hd:Tr d)(d0:d≠[])(H:HtP h p)(L:HtP l d):HtP (h+(p.length+1-d.length)*l+l) (divP p d).1:=(divL_ht2 hd d0 L (p.length+1) h [] p hp (HtQ.start H) (fun _ _=>rfl)).out
theorem gcdB_step{p q:List Rat}{M B:Nat}(tp:Tr p)(tq:Tr q)(h1:HtP M p)(h2:HtP M q)(h3:(M+1)*3^(if q.length<p.length then p.length else q.length+1)≤B)(q0:q≠[]):∃M',HtP M' (qA7 q)∧HtP M' (remP p q)∧(M'+1)*3^q.length≤B:=by
 have hr:=qOf tp tq q0 h1 h2
 have hl:=qC4 tp tq q0
 have hq:=qA2 q0
 have hm:=h2.monic
 obtain ⟨A,hA⟩:∃A,(p.length+1-q.length)*M=A:=⟨_,rfl⟩
 refine ⟨M+A+1,hm.mono (by omega),(hA▸hr).mono (by omega),?_⟩
 by_cases c:q.length<p.length
 ·rw [if_pos c] at h3
  obtain ⟨e,he⟩:∃e,p.length-q.length=e:=⟨_,rfl⟩
  have p3:=qMi e (by omega)
  have e4:3^p.length=3^e*3^q.length:=by rw [←Nat.pow_add];congr 1;omega
  rw [e4,←Nat.mul_assoc] at h3
  refine Nat.le_trans (Nat.mul_le_mul_right _ ?_) h3
  rw [show p.length+1-q.length=e+1 by omega,Nat.add_mul,Nat.one_mul] at hA
  have:=Nat.mul_le_mul_left (M+1) p3
  have e5:(M+1)*(e+2)=e*M+2*M+(e+2):=by rw [Nat.add_mul,Nat.mul_add,Nat.mul_comm M e];omega
  omega
 ·rw [if_neg c,Nat.pow_succ,Nat.mul_comm (3^q.length) 3,←Nat.mul_assoc] at h3
  refine Nat.le_trans (Nat.mul_le_mul_right _ ?_) h3
  have:A≤M:=by
   rw [←hA]
   rcases Nat.lt_or_ge (p.length+1-q.length) 1 with g|g
   ·rw [show p.length+1-q.length=0 by omega];omega
   ·rw [show p.length+1-q.length=1 by omega];omega
  omega
theorem gcdB{B:Nat}(hB:6≤B):∀(n:Nat) {p q:List Rat} {M:Nat},Tr p->Tr q->HtP M p->HtP M q->(M+1)*3^(if q.length<p.length then p.length else q.length+1)≤B->q.length≤n->∃M',HtP (M'+1) (gcdP p q)∧(M'+1)*3^(gcdP p q).length≤B:=by
 intro n
 induction n with
 |zero=>
  intro p q M tp tq h1 h2 h3 hl
  have:q=[]:=List.length_eq_zero_iff.1 (by omega)
  subst this
  rw [qG3]
  by_cases p0:p=[]
  ·subst p0
   exact ⟨1,HtP.nil,by show 2*3^0≤B;omega⟩
  ·have:=qA2 p0
   rw [if_pos (by simpa using this)] at h3
   exact ⟨M,h1.monic,by rw [show (qA7 p).length=p.length from qBd _ _];exact h3⟩
 |succ n ih=>
  intro p q M tp tq h1 h2 h3 hl
  by_cases q0:q=[]
  ·subst q0;exact ih tp tq h1 h2 h3 (by simp)
  ·obtain ⟨M',k1,k2,k3⟩:=gcdB_step tp tq h1 h2 h3 q0
   have e:=qGn tp tq q0 (a:=1/lead q) (b:=1) (qJn tq q0).1 (by decide)
   rw [qDk] at e
   rw [show gcdP p q=gcdP (qA7 q) (remP p q) from e]
   have hml:(qA7 q).length=q.length:=qBd _ _
   exact ih (qEv tq) (qEl tp tq q0) k1 k2 (by rw [hml,if_pos (qC4 tp tq q0)];exact k3) (by have:=qC4 tp tq q0;omega)
theorem gcd_len:∀(n:Nat) {p q:List Rat},Tr p->Tr q->q.length≤n->(gcdP p q).length≤max p.length q.length:=by
 intro n
 induction n with
 |zero=>
  intro p q tp tq hl
  have:q=[]:=List.length_eq_zero_iff.1 (by omega)
  subst this
  rw [qG3,show (qA7 p).length=p.length from qBd _ _]
  omega
 |succ n ih=>
  intro p q tp tq hl
  by_cases q0:q=[]
  ·subst q0;exact ih tp tq (by simp)
  ·have e:=qGn tp tq q0 (a:=1/lead q) (b:=1) (qJn tq q0).1 (by decide)
   rw [qDk] at e
   rw [show gcdP p q=gcdP (qA7 q) (remP p q) from e]
   have hr:=qC4 tp tq q0
   have:=ih (qEv tq) (qEl tp tq q0) (by omega)
   rw [show (qA7 q).length=q.length from qBd _ _] at this
   omega
theorem qF8(a:Rat)(p:List Rat)(x:Rat):qAb (a::p) x=a+x*qAb p x:=by
 simp only [qAb]
 grind
def syn:List Rat->Rat->List Rat
 |[],_=>[]
 |[_],_=>[]
 |_::b::t,r=>qAb (b::t) r::syn (b::t) r
theorem qM0:∀(p:List Rat) (r x:Rat),qAb p x=qAb p r+(x-r)*qAb (syn p r) x
 |[],r,x=>by simp only [qAb,syn];grind
 |[a],r,x=>by simp only [qAb,syn];grind
 |a::b::t,r,x=>by
  have ih:=qM0 (b::t) r x
  have e1:∀y,qAb (a::b::t) y=a+y*qAb (b::t) y:=fun y=>qF8 _ _ _
  have e2:qAb (syn (a::b::t) r) x=qAb (b::t) r+x*qAb (syn (b::t) r) x:=qF8 _ _ _
  rw [e1,e1,e2]
  grind
theorem syn_zero:∀(p:List Rat) (r:Rat),qAb p r=0->(∀i,cf (syn p r) i=0)->∀i,cf p i=0
 |[],r,h,k,i=>rfl
 |[a],r,h,k,i=>by
  have:a=0:=by simp only [qAb] at h;grind
  subst this
  cases i<;>rfl
 |a::b::t,r,h,k,i=>by
  have k0:qAb (b::t) r=0:=k 0
  have ih:=syn_zero (b::t) r k0 (fun j=>k (j+1))
  have e1:qAb (a::b::t) r=a+r*qAb (b::t) r:=qF8 _ _ _
  rw [e1,k0] at h
  cases i with
  |zero=>show a=0;grind
  |succ i=>exact ih i
theorem syn_len:∀(p:List Rat) (r:Rat),(syn p r).length=p.length-1
 |[],r=>rfl
 |[a],r=>rfl
 |a::b::t,r=>by show (syn (b::t) r).length+1=_;rw [syn_len];rfl
theorem eval_all0:∀(n:Nat) (p:List Rat) (m:Nat),p.length≤n->(∀k:Nat,m≤k->qAb p (k:Rat)=0)->∀i,cf p i=0
 |0,p,m,hl,h,i=>qCr (by omega)
 |n+1,p,m,hl,h,i=>by
  refine syn_zero p (m:Rat) (h m (Nat.le_refl _)) ?_ i
  refine eval_all0 n _ (m+1) (by rw [syn_len];omega) fun k hk=>?_
  have:=qM0 p (m:Rat) (k:Rat)
  rw [h k (by omega),h m (Nat.le_refl _),Rat.zero_add] at this
  rcases Rat.mul_eq_zero.1 this.symm with e|e
  ·exfalso
   have e2:(k:Rat)=(m:Rat):=by grind
   have e3:=Rat.natCast_inj.1 e2
   omega
  ·exact e
theorem qJr{p:List Rat}(h:∀x,qAb p x=0):∀i,cf p i=0:=eval_all0 _ p 0 (Nat.le_refl _) fun k _=>h _
theorem qA0{p q:List Rat}(h:∀x,qAb p x=qAb q x):Eqv p q:=fun i=>by
 have:=qJr (p:=subC p q) (fun x=>by rw [qEj,h x];grind) i
 rw [qJ9] at this
 grind
theorem qSo{a b c:List Rat}(ha:∃x,qAb a x≠0)(h:∀x,qAb a x*qAb b x=qAb a x*qAb c x):∀x,qAb b x=qAb c x:=by
 have ta:qAd a≠[]:=fun e=>by
  obtain ⟨x,hx⟩:=ha
  rw [←qAp,e] at hx
  exact hx rfl
 by_cases hb:qAd (subC b c)=[]
 ·intro x
  have:qAb (subC b c) x=0:=by rw [←qAp,hb];rfl
  rw [qEj] at this
  grind
 ·exfalso
  refine qMk (qAl a) (qAl _) ta hb ?_
  unfold mulT
  rw [qKe]
  refine qJr fun x=>?_
  rw [qAg,qAp,qAp,qEj]
  have:=h x
  grind
def dEv(p:List Rat)(x:Rat):Rat:=qAb (derC p) x
theorem qK3(x:Rat):dEv [] x=0:=rfl
theorem qIj{p q:List Rat}(h:Eqv p q)(x:Rat):dEv p x=dEv q x:=qE1 x fun i=>by rw [qGo,qGo,h]
theorem qEk(a:Rat)(p:List Rat)(x:Rat):dEv (a::p) x=qAb p x+x*dEv p x:=by
 have h:Eqv (derC (a::p)) (addC p (0::derC p)):=fun i=>by
  rw [qGo,qBg]
  show ((i+1:Nat):Rat)*cf p i=_
  cases i with
  |zero=>show ((0+1:Nat):Rat)*cf p 0=cf p 0+0;rw [show ((0+1:Nat):Rat)=1 from rfl];grind
  |succ i=>
   show ((i+1+1:Nat):Rat)*cf p (i+1)=cf p (i+1)+cf (derC p) i
   rw [qGo,Rat.natCast_add (i+1) 1]
   have:((1:Nat):Rat)=1:=rfl
   rw [this]
   grind
 show qAb (derC (a::p)) x=_
 rw [qE1 x h,qBh]
 have:qAb (0::derC p) x=0+x*qAb (derC p) x:=qF8 _ _ _
 rw [this,Rat.zero_add]
 rfl
theorem dEv_add(p q:List Rat)(x:Rat):dEv (addC p q) x=dEv p x+dEv q x:=by
 have h:Eqv (derC (addC p q)) (addC (derC p) (derC q)):=fun i=>by
  rw [qGo,qBg,qBg,qGo,qGo];grind
 show qAb (derC (addC p q)) x=_
 rw [qE1 x h,qBh];rfl
theorem dEv_smul(c:Rat)(p:List Rat)(x:Rat):dEv (smul c p) x=c*dEv p x:=by
 have h:Eqv (derC (smul c p)) (smul c (derC p)):=fun i=>by
  rw [qGo,qA6,qA6,qGo];grind
 show qAb (derC (smul c p)) x=_
 rw [qE1 x h,qA4];rfl
theorem qDs:∀(p q:List Rat) (x:Rat),dEv (mulC p q) x=dEv p x*qAb q x+qAb p x*dEv q x
 |[],q,x=>by
  show (0:Rat)=0*qAb q x+0*dEv q x
  grind
 |a::p,q,x=>by
  have ih:=qDs p q x
  have e1:mulC (a::p) q=addC (smul a q) (0::mulC p q):=rfl
  rw [e1,dEv_add,dEv_smul,qEk,qEk,ih,qAg]
  have:qAb (a::p) x=a+x*qAb p x:=qF8 _ _ _
  rw [this]
  grind
theorem qCy(p:List Rat)(x:Rat):qAb (derP p) x=dEv p x:=qAp _ _
theorem bezout:∀(n:Nat) {p q:List Rat},Tr p->Tr q->q.length≤n->∃u v:List Rat,∀x,qAb (gcdP p q) x=qAb u x*qAb p x+qAb v x*qAb q x:=by
 intro n
 induction n with
 |zero=>
  intro p q tp tq hl
  have:q=[]:=List.length_eq_zero_iff.1 (by omega)
  subst this
  refine ⟨[1/lead p],[],fun x=>?_⟩
  rw [qG3]
  unfold qA7
  rw [qA4]
  simp only [qAb]
  grind
 |succ n ih=>
  intro p q tp tq hl
  by_cases q0:q=[]
  ·subst q0;exact ih tp tq (by simp)
  ·have e:=qGn tp tq q0 (a:=1/lead q) (b:=1) (qJn tq q0).1 (by decide)
   rw [qDk] at e
   have hr:=qC4 tp tq q0
   obtain ⟨u,v,h⟩:=ih (p:=qA7 q) (q:=remP p q) (qEv tq) (qEl tp tq q0) (by omega)
   rw [show gcdP p q=gcdP (qA7 q) (remP p q) from e]
   refine ⟨v,subC (smul (1/lead q) u) (mulC v (divP p q).1),fun x=>?_⟩
   have hs:=qE1 x (qBy tp tq q0).2.2.2
   rw [qBh,qAg] at hs
   rw [h x,qEj,qA4,qAg]
   unfold qA7
   rw [qA4]
   show _=_
   have hr2:qAb (remP p q) x=qAb p x-qAb (divP p q).1 x*qAb q x:=by
    show qAb (divP p q).2 x=_
    grind
   rw [hr2]
   grind
theorem qH7{g p:List Rat}(h:dvdP g p):∃u,∀x,qAb p x=qAb u x*qAb g x:=by
 obtain ⟨u,hu⟩:=h
 exact ⟨u,fun x=>by rw [qE1 x hu,qAg]⟩
theorem ev_ne{p:List Rat}(h:Tr p)(h0:p≠[]):∃x,qAb p x≠0:=by
 refine Classical.byContradiction fun hn=>?_
 have:∀x,qAb p x=0:=fun x=>Classical.byContradiction fun e=>hn ⟨x,e⟩
 exact h h0 (qJr this _)
theorem mul_ne2{H h:List Rat}(H0:∃x,qAb H x≠0)(h0:∃x,qAb h x≠0):∃x,qAb (mulC H h) x≠0:=by
 refine Classical.byContradiction fun hn=>?_
 have e:∀x,qAb H x*qAb h x=qAb H x*qAb [] x:=fun x=>by
  have:=Classical.byContradiction fun e=>hn ⟨x,e⟩
  rw [qAg] at this
  rw [this]
  show (0:Rat)=qAb H x*0
  rw [Rat.mul_zero]
 obtain ⟨x,hx⟩:=h0
 exact hx (qSo H0 e x)
theorem sqf_desc{h A B Q R u v g:List Rat}(th:Tr h)(hl:2≤h.length)(h1:∀x,qAb Q x=qAb h x*qAb A x)(h2:∀x,dEv Q x=qAb h x*qAb B x)(h3:∀x,dEv Q x=dEv h x*qAb A x+qAb h x*dEv A x)(h4:∀x,qAb u x*qAb Q x+qAb v x*qAb R x=1)(h5:∀x,qAb Q x*dEv g x=qAb g x*(qAb R x-dEv Q x)):∀(n:Nat) (s H C:List Rat),Tr s->s≠[]->s.length≤n->(∃x,qAb H x≠0)->(∀x,qAb g x=qAb H x*qAb s x)->(∀x,dEv g x=dEv H x*qAb s x+qAb H x*dEv s x)->(∀x,dEv H x*qAb A x=qAb H x*qAb C x)->False
 |0,s,H,C,ts,s0,sl,_,_,_,_=>s0 (List.length_eq_zero_iff.1 (by omega))
 |n+1,s,H,C,ts,s0,sl,H0,e1,e2,e3=>by
  have k1:∀x,qAb H x*(qAb (mulC h (addC (mulC C s) (addC (mulC (derC s) A) (mulC s B)))) x)=qAb H x*qAb (mulC s R) x:=fun x=>by
   rw [qAg,qBh,qAg,qBh,qAg,qAg,qAg]
   have a1:=h1 x
   have a2:=h2 x
   have a5:=h5 x
   have b1:=e1 x
   have b2:=e2 x
   have b3:=e3 x
   show _*(_*(_+(dEv s x*_+_)))=_
   rw [b2,b1,a1,a2] at a5
   have c1:qAb h x*qAb A x*(dEv H x*qAb s x+qAb H x*dEv s x)=qAb h x*(dEv H x*qAb A x)*qAb s x+qAb h x*qAb A x*(qAb H x*dEv s x):=by grind
   rw [c1,b3] at a5
   grind
  have k2:=qSo H0 k1
  have k3:∀x,qAb s x=qAb h x*qAb (addC (mulC s (mulC u A)) (mulC v (addC (mulC C s) (addC (mulC (derC s) A) (mulC s B))))) x:=fun x=>by
   have:=k2 x
   rw [qAg,qAg] at this
   rw [qBh,qAg,qAg,qAg]
   generalize qAb (addC (mulC C s) (addC (mulC (derC s) A) (mulC s B))) x=W at *
   have a4:=h4 x
   rw [h1 x] at a4
   have:qAb s x=qAb s x*(qAb u x*(qAb h x*qAb A x)+qAb v x*qAb R x):=by rw [a4];grind
   grind
  generalize addC (mulC s (mulC u A)) (mulC v (addC (mulC C s) (addC (mulC (derC s) A) (mulC s B))))=s1 at *
  have hh:h≠[]:=fun e=>by rw [e] at hl;simp at hl
  have s1n:qAd s1≠[]:=fun e=>by
   obtain ⟨x,hx⟩:=ev_ne ts s0
   rw [k3 x,←qAp s1,e] at hx
   exact hx (Rat.mul_zero _)
  have es:s=mulT h (qAd s1):=ts.ext (qEm _ _) fun i=>by
   unfold mulT
   rw [qBi]
   exact qA0 (fun x=>by rw [qAg,qAp,k3 x]) i
  have ls:=(qE0 th (qAl s1) hh s1n).1
  rw [←es] at ls
  have e4:∀x,qAb s x=qAb h x*qAb (qAd s1) x:=fun x=>by rw [qAp,k3 x]
  have e5:∀x,dEv s x=dEv h x*qAb (qAd s1) x+qAb h x*dEv (qAd s1) x:=fun x=>by
   rw [←qDs]
   exact qIj (by rw [es];exact qCf _) x
  have hp:0<(qAd s1).length:=qA2 s1n
  refine sqf_desc th hl h1 h2 h3 h4 h5 n (qAd s1) (mulC H h) (addC C (subC B (derC A))) (qAl _) s1n (by omega) (mul_ne2 H0 (ev_ne th hh)) (fun x=>?_) (fun x=>?_) (fun x=>?_)
  ·rw [e1 x,qAg,e4 x];grind
  ·rw [e2 x,qDs,qAg,e4 x,e5 x];grind
  ·rw [qDs,qAg,qBh,qEj]
   show _=_*(_+(_-dEv A x))
   have a3:=h3 x
   have a2:=h2 x
   have b3:=e3 x
   have c1:dEv h x*qAb A x=qAb h x*(qAb B x-dEv A x):=by grind
   have c2:(dEv H x*qAb h x+qAb H x*dEv h x)*qAb A x=qAb h x*(dEv H x*qAb A x)+qAb H x*(dEv h x*qAb A x):=by grind
   rw [c2,c1,b3]
   grind
theorem sqf{p Q:List Rat}(tp:Tr p)(p0:p≠[])(tQ:Tr Q)(hQ:∀x,qAb p x=qAb Q x*qAb (gcdP p (derP p)) x):∃u v:List Rat,∀x,qAb u x*qAb Q x+qAb v x*qAb (derP Q) x=1:=by
 have td:Tr (derP p):=qAl _
 have tE:Tr (derP Q):=qAl _
 obtain ⟨g1,g2⟩:=qEo tp td
 obtain ⟨g3,g4⟩:=g2 (.inl p0)
 obtain ⟨u0,v0,hb⟩:=bezout _ tp td (Nat.le_refl _)
 obtain ⟨R,hR⟩:=qH7 (qG4 tp td).2
 generalize hg:gcdP p (derP p)=g at *
 have gne:=ev_ne g1 g3
 have h4:∀x,qAb (addC (mulC u0 Q) (mulC v0 R)) x=qAb [1] x:=qSo gne fun x=>by
  have:=hb x
  rw [hQ x,hR x] at this
  rw [qBh,qAg,qAg,show qAb [1] x=1 by simp only [qAb];grind]
  grind
 have h4':∀x,qAb u0 x*qAb Q x+qAb v0 x*qAb R x=1:=fun x=>by
  have:=h4 x
  rw [qBh,qAg,qAg,show qAb [1] x=1 by simp only [qAb];grind] at this
  exact this
 have hQ0:Q≠[]:=fun e=>by
  obtain ⟨x,hx⟩:=ev_ne tp p0
  rw [hQ x,e] at hx
  exact hx (Rat.zero_mul _)
 obtain ⟨c1,c2⟩:=qEo tQ tE
 obtain ⟨c3,c4⟩:=c2 (.inl hQ0)
 obtain ⟨A,hA⟩:=qH7 (qG4 tQ tE).1
 obtain ⟨B,hB⟩:=qH7 (qG4 tQ tE).2
 obtain ⟨s,t,hst⟩:=bezout _ tQ tE (Nat.le_refl _)
 generalize gcdP Q (derP Q)=h at *
 have dp:∀x,dEv p x=dEv Q x*qAb g x+qAb Q x*dEv g x:=fun x=>by
  rw [←qDs]
  exact qIj (qA0 fun y=>by rw [qAg];exact hQ y) x
 by_cases hl:2≤h.length
 ·exfalso
  refine sqf_desc (Q:=Q) (R:=R) (u:=u0) (v:=v0) (g:=g) (A:=A) (B:=B) c1 hl (fun x=>by rw [hA x,Rat.mul_comm]) (fun x=>by rw [←qCy,hB x,Rat.mul_comm]) (fun x=>?_) h4' (fun x=>?_) g.length g [1] [] g1 g3 (Nat.le_refl _) ⟨0,by decide+kernel⟩ (fun x=>?_) (fun x=>?_) (fun x=>?_)
  ·rw [Rat.add_comm,Rat.mul_comm (qAb h x),Rat.mul_comm (dEv h x),←qDs]
   exact qIj (qA0 fun y=>by rw [qAg];exact hA y) x
  ·have a:=hR x
   rw [qCy,dp x] at a
   grind
  ·rw [show qAb [1] x=1 by simp only [qAb];grind,Rat.one_mul]
  ·rw [show qAb [1] x=1 by simp only [qAb];grind,show dEv [1] x=0 by rw [qEk];simp only [qAb,qK3];grind];grind
  ·rw [show dEv [1] x=0 by rw [qEk];simp only [qAb,qK3];grind]
   show (0:Rat)*_=_*0
   grind
 ·have l1:h.length=1:=by have:=qA2 c3;omega
  refine ⟨s,t,fun x=>?_⟩
  rw [←hst x]
  match h,l1 with
  |[a],_=>
   have:a=1:=c4
   subst this
   simp only [qAb];grind
def ab(x:Rat):Rat:=if x<0 then-x else x
theorem qAo(x:Rat):0≤ab x:=by unfold ab;split<;>grind
theorem qU6(x:Rat):ab (-x)=ab x:=by unfold ab;split<;>split<;>grind
theorem qSt(x y:Rat):ab (x+y)≤ab x+ab y:=by unfold ab;split<;>split<;>split<;>grind
theorem ab_sub(x y:Rat):ab (x-y)≤ab x+ab y:=by unfold ab;split<;>split<;>split<;>grind
theorem ab_pos{x:Rat}(h:x≠0):0<ab x:=by unfold ab;split<;>grind
theorem qK9{x m:Rat}(h1:x≤m)(h2: -m≤x):ab x≤m:=by unfold ab;split<;>grind
theorem qTk(x:Rat):x≤ab x∧ -(ab x)≤x:=by unfold ab;split<;>grind
theorem qEu(x y:Rat):ab (x*y)=ab x*ab y:=by
 have h1:∀a b:Rat,0≤a->0≤b->ab (a*b)=ab a*ab b:=fun a b ha hb=>by
  have:=Rat.mul_nonneg ha hb
  unfold ab
  rw [if_neg (by grind),if_neg (by grind),if_neg (by grind)]
 by_cases hx:0≤x
 ·by_cases hy:0≤y
  ·exact h1 x y hx hy
  ·have:=h1 x (-y) hx (by grind)
   rw [qU6 y] at this
   rw [←this,show x* -y= -(x*y) by grind,qU6]
 ·by_cases hy:0≤y
  ·have:=h1 (-x) y (by grind) hy
   rw [qU6 x] at this
   rw [←this,show-x*y= -(x*y) by grind,qU6]
  ·have:=h1 (-x) (-y) (by grind) (by grind)
   rw [qU6 x,qU6 y] at this
   rw [←this,show-x* -y=x*y by grind]
def sgQ(x:Rat):Int:=x.num.sign
theorem sg_pos{x:Rat}(h:0<x):sgQ x=1:=Int.sign_eq_one_of_pos (num_gt0.2 h)
theorem sg_neg{x:Rat}(h:x<0):sgQ x= -1:=Int.sign_eq_neg_one_of_neg (num_lt0.2 h)
theorem qC1(x:Rat):(0<x∧sgQ x=1)∨(x=0∧sgQ x=0)∨(x<0∧sgQ x= -1):=by
 by_cases h:0<x
 ·exact .inl ⟨h,sg_pos h⟩
 ·by_cases h2:x<0
  ·exact .inr (.inr ⟨h2,sg_neg h2⟩)
  ·have:x=0:=by grind
   subst this;exact .inr (.inl ⟨rfl,rfl⟩)
theorem qVh{x y:Rat}(h:ab (x-y)<ab x):sgQ x=sgQ y∧sgQ x≠0:=by
 rcases qC1 x with ⟨h1,e1⟩|⟨h1,e1⟩|⟨h1,e1⟩
 ·have:0<y:=by
   rw [show ab x=x from by unfold ab;rw [if_neg (by grind)]] at h
   have:=qTk (x-y)
   grind
  rw [e1,sg_pos this];exact ⟨rfl,by decide⟩
 ·subst h1;have:=qAo (0-y);have h0:ab 0=0:=rfl;rw [h0] at h;grind
 ·have:y<0:=by
   rw [show ab x= -x from by unfold ab;rw [if_pos h1]] at h
   have:=qTk (x-y)
   grind
  rw [e1,sg_neg this];exact ⟨rfl,by decide⟩
def chg:Int->List Int->Int
 |_,[]=>0
 |a,s::l=>(if s≠0∧a≠0∧s≠a then 1 else 0)+chg (if s≠0 then s else a) l
abbrev Fn:=Rat->Rat
def sgs(l:List Fn)(x:Rat):List Int:=l.map fun f=>sgQ (f x)
def vrs(l:List Fn)(x:Rat):Int:=chg 0 (sgs l x)
theorem chg_zero(a:Int)(l:List Int):chg a (0::l)=chg a l:=by simp [chg]
theorem qN3{a:Int}(h:a≠0)(l:List Int):chg a (a::l)=chg a l:=by simp [chg,h]
theorem qLp{a s:Int}(h:a≠0)(h2:s≠0)(h3:s≠a)(l:List Int):chg a (s::l)=1+chg s l:=by simp [chg,h,h2,h3]
theorem qK5{s:Int}(h:s≠0)(l:List Int):chg 0 (s::l)=chg s l:=by simp [chg,h]
theorem chg_mid{a s:Int}(h:a≠0)(hs:s=0∨s=a∨s= -a)(l:List Int):chg a (s:: -a::l)=1+chg (-a) l:=by
 rcases hs with rfl|rfl|rfl
 ·rw [chg_zero,qLp h (by omega) (by omega)]
 ·rw [qN3 h,qLp h (by omega) (by omega)]
 ·rw [qLp h (by omega) (by omega),qN3 (by omega)]
def mn(a b:Rat):Rat:=if a≤b then a else b
theorem qRt{t a b:Rat}(h:t≤mn a b):t≤a∧t≤b:=by unfold mn at h;split at h<;>grind
theorem qJ6{a b:Rat}(h:0<a)(k:0<b):0<mn a b:=by unfold mn;split<;>assumption
def Bd(D:Rat->Prop)(f:Fn):Prop:=∃M,0≤M∧∀x,D x->ab (f x)≤M
def Lp(D:Rat->Prop)(f:Fn):Prop:=∃L,0≤L∧∀x y,D x->D y->ab (f x-f y)≤L*ab (x-y)
def SC(D:Rat->Prop):List Fn->Prop
 |[]=>False
 |[c]=>∃v,v≠0∧∀x,D x->c x=v
 |a::b::r=>Lp D a∧Lp D b∧SC D (b::r)∧match r with
  |[]=>True
  |c::_=>∃(Q:Fn) (k:Rat),0<k∧Bd D Q∧∀x,D x->a x=Q x*b x-k*c x
theorem qDr{a b:Rat}(ha:0<a)(hb:0<b):0<a/b∧a/b*b=a:=by
 have e:a/b*b=a:=qAm (Rat.ne_of_gt hb)
 refine ⟨?_,e⟩
 refine Rat.not_le.1 fun h=>?_
 have:=Rat.mul_le_mul_of_nonneg_right h (Rat.le_of_lt hb)
 rw [e,Rat.zero_mul] at this
 grind
theorem qCl{a b c:Rat}(h:a≤b)(hc:0≤c):a*c≤b*c:=Rat.mul_le_mul_of_nonneg_right h hc
theorem SC.far{D:Rat->Prop}:∀{r:List Fn} {a b:Fn},SC D (a::b::r)->∃e,0<e∧∀x,D x->e≤ab (a x)∨e≤ab (b x)
 |[],a,b,h=>by
  obtain ⟨_,_,⟨v,hv,hb⟩,_⟩:=h
  exact ⟨ab v,ab_pos hv,fun x hx=>.inr (by rw [hb x hx];exact Rat.le_refl)⟩
 |c::r,a,b,h=>by
  obtain ⟨_,_,hs,Q,k,hk,⟨M,hM,hQ⟩,hr⟩:=h
  obtain ⟨e,he,hf⟩:=SC.far hs
  obtain ⟨d1,d2⟩:=qDr (a:=k*e) (b:=1+M) (Rat.mul_pos hk he) (by grind)
  generalize k*e/(1+M)=f at *
  refine ⟨if e≤f then e else f,by split<;>grind,fun x hx=>?_⟩
  have hfe:(if e≤f then e else f)≤f∧(if e≤f then e else f)≤e:=by split<;>grind
  generalize (if e≤f then e else f)=g at *
  by_cases hb:g≤ab (b x)
  ·exact .inr hb
  ·left
   have hc:e≤ab (c x):=(hf x hx).resolve_left (by grind)
   have e1:=hr x hx
   have e2:k*c x=Q x*b x-a x:=by grind
   have e3:=ab_sub (Q x*b x) (a x)
   rw [←e2,qEu,qEu] at e3
   have e4:ab k=k:=by unfold ab;rw [if_neg (by grind)]
   rw [e4] at e3
   have e5:e*k≤ab (c x)*k:=qCl hc (by grind)
   have e6:ab (Q x)*ab (b x)≤M*ab (b x):=qCl (hQ x hx) (qAo _)
   have e7:ab (b x)*M≤g*M:=qCl (by grind) hM
   have e8:g*M≤f*M:=qCl (by grind) hM
   grind
theorem qKr{L d e t:Rat}(hL:0≤L)(he:0<e)(hd:d*(1+L)≤e)(ht:t≤d)(h0:0≤t):L*t<e:=by
 have h1:=qCl (a:=t) (b:=d) (c:=L) ht hL
 by_cases hz:d=0
 ·subst hz;grind
 ·grind
theorem SC.stay{D:Rat->Prop}:∀(n:Nat) {r:List Fn} {a:Fn},r.length≤n->SC D (a::r)->∃d,0<d∧∀x y,D x->D y->ab (x-y)≤d->sgQ (a x)≠0->sgQ (a x)=sgQ (a y)->chg (sgQ (a x)) (sgs r x)=chg (sgQ (a y)) (sgs r y)
 |_,[],a,_,_=>⟨1,by decide,fun x y _ _ _ _ _=>rfl⟩
 |_,[b],a,_,h=>by
  obtain ⟨_,_,⟨v,hv,hb⟩,_⟩:=h
  refine ⟨1,by decide,fun x y hx hy _ h0 e=>?_⟩
  simp only [sgs,List.map_cons,List.map_nil]
  rw [hb x hx,hb y hy,e]
 |n+1,b::c::r,a,hn,h=>by
  obtain ⟨_,⟨Lb,hLb,lb⟩,hs,Q,k,hk,⟨M,hM,hQ⟩,hr⟩:=h
  have hs2:SC D (c::r):=hs.2.2.1
  obtain ⟨Lc,hLc,lc⟩:=hs.2.1
  obtain ⟨d1,p1,A1⟩:=SC.stay n (r:=c::r) (a:=b) (by simpa using hn) hs
  obtain ⟨d2,p2,A2⟩:=SC.stay n (r:=r) (a:=c) (by simp at hn;omega) hs2
  obtain ⟨e,he,hf⟩:=SC.far hs
  obtain ⟨q1,q2⟩:=qDr (a:=k*e) (b:=1+M) (Rat.mul_pos hk he) (by grind)
  generalize k*e/(1+M)=f at *
  obtain ⟨g,hg⟩:∃g,(if e≤f then e else f)=g:=⟨_,rfl⟩
  have hg1:0<g∧g≤e∧g≤f:=by rw [←hg];split<;>grind
  clear hg
  obtain ⟨d3,p3,m3⟩:∃d,0<d∧d*(1+Lb)=g/2:=⟨_,qDr (a:=g/2) (b:=1+Lb) (by grind) (by grind)⟩
  obtain ⟨d4,p4,m4⟩:∃d,0<d∧d*(1+Lc)=e/2:=⟨_,qDr (a:=e/2) (b:=1+Lc) (by grind) (by grind)⟩
  refine ⟨mn (mn d1 d2) (mn d3 d4),qJ6 (qJ6 p1 p2) (qJ6 p3 p4),fun x y hx hy hd h0 hsg=>?_⟩
  obtain ⟨hd12,hd34⟩:=qRt hd
  obtain ⟨hd1,hd2⟩:=qRt hd12
  obtain ⟨hd3,hd4⟩:=qRt hd34
  clear hd12 hd34 hd
  have vb:=lb x y hx hy
  have vc:=lc x y hx hy
  have vb2:=qKr (e:=g/2) hLb (by grind) (by grind) hd3 (qAo _)
  have vc2:=qKr (e:=e/2) hLc (by grind) (by grind) hd4 (qAo _)
  simp only [sgs,List.map_cons]
  by_cases hb:g/2≤ab (b x)
  ·obtain ⟨s1,s2⟩:=qVh (x:=b x) (y:=b y) (by grind)
   have:=A1 x y hx hy hd1 s2 s1
   simp only [sgs,List.map_cons] at this
   rw [←hsg]
   by_cases hc:sgQ (b x)=sgQ (a x)
   ·rw [s1] at hc
    rw [s1,hc,qN3 h0,qN3 h0]
    rw [s1,hc] at this
    exact this
   ·rw [qLp h0 s2 hc,qLp h0 (by rw [←s1];exact s2) (by rw [←s1];exact hc),this]
  ·have hby:ab (b y)<g:=by
    have:=ab_sub (b x) (b x-b y)
    have e':b x-(b x-b y)=b y:=by grind
    rw [e'] at this
    grind
   have cx:e≤ab (c x):=(hf x hx).resolve_left (by grind)
   have cy:e≤ab (c y):=(hf y hy).resolve_left (by grind)
   obtain ⟨s1,s2⟩:=qVh (x:=c x) (y:=c y) (by grind)
   have hopp:sgQ (c x)= -sgQ (a x):=by
    have e1:=hr x hx
    have e3:=qEu (Q x) (b x)
    have e6:ab (Q x)*ab (b x)≤M*ab (b x):=qCl (hQ x hx) (qAo _)
    have e7:ab (b x)*M≤g*M:=qCl (by grind) hM
    have e8:g*M≤f*M:=qCl (by grind) hM
    have e9:=qTk (Q x*b x)
    have hlt:ab (Q x*b x)<k*e:=by grind
    rcases qC1 (c x) with ⟨h1,g1⟩|⟨h1,g1⟩|⟨h1,g1⟩
    ·have e5:e*k≤c x*k:=qCl (by unfold ab at cx;rw [if_neg (by grind)] at cx;exact cx) (by grind)
     rw [g1,sg_neg (x:=a x) (by grind)];rfl
    ·rw [g1] at s2;exact absurd rfl s2
    ·have e5:e*k≤(-(c x))*k:=qCl (by unfold ab at cx;rw [if_pos h1] at cx;exact cx) (by grind)
     rw [g1,sg_pos (x:=a x) (by grind)]
   have hm:∀t:Rat,sgQ t=0∨sgQ t=sgQ (a x)∨sgQ t= -sgQ (a x):=fun t=>by
    rcases qC1 t with ⟨_,g1⟩|⟨_,g1⟩|⟨_,g1⟩<;>rcases qC1 (a x) with ⟨_,g2⟩|⟨_,g2⟩|⟨_,g2⟩<;>first|(rw [g2] at h0;exact absurd rfl h0)|(rw [g1,g2];decide)
   have:=A2 x y hx hy hd2 s2 s1
   rw [←hsg,←s1,hopp]
   rw [chg_mid h0 (hm (b x)),chg_mid h0 (hm (b y))]
   simp only [sgs] at this
   rw [←s1,hopp] at this
   rw [this]
def qGp(q:Fn)(x y:Rat):Prop:=(q x<0∧0≤q y)∨(0<q x∧q y≤0)
instance (q:Fn) (x y:Rat):Decidable (qGp q x y):=by unfold qGp;exact inferInstance
theorem cross_up{u v:Rat}(h:u<v):(if sgQ u= -1 then (1:Int) else 0)-(if sgQ v= -1 then 1 else 0)=if (u<0∧0≤v)∨(0<u∧v≤0) then 1 else 0:=by
 rcases qC1 u with ⟨k1,j1⟩|⟨k1,j1⟩|⟨k1,j1⟩<;>rcases qC1 v with ⟨k2,j2⟩|⟨k2,j2⟩|⟨k2,j2⟩<;>rw [j1,j2]<;>(try (exfalso;grind))<;>first|(rw [if_pos (by grind:(u<0∧0≤v)∨(0<u∧v≤0))];decide)|(rw [if_neg (by grind:¬((u<0∧0≤v)∨(0<u∧v≤0)))];decide)
theorem cross_dn{u v:Rat}(h:v<u):(if sgQ u= - -1 then (1:Int) else 0)-(if sgQ v= - -1 then 1 else 0)=if (u<0∧0≤v)∨(0<u∧v≤0) then 1 else 0:=by
 rcases qC1 u with ⟨k1,j1⟩|⟨k1,j1⟩|⟨k1,j1⟩<;>rcases qC1 v with ⟨k2,j2⟩|⟨k2,j2⟩|⟨k2,j2⟩<;>rw [j1,j2]<;>(try (exfalso;grind))<;>first|(rw [if_pos (by grind:(u<0∧0≤v)∨(0<u∧v≤0))];decide)|(rw [if_neg (by grind:¬((u<0∧0≤v)∨(0<u∧v≤0)))];decide)
theorem SC.short{D:Rat->Prop}{q q1 d:Fn}{r:List Fn}(h:SC D (q::q1::r)){k:Rat}(hk:0<k)(hq:∀x,D x->q1 x=k*d x){K:Rat}(hK:0≤K)(ht:∀x y,D x->D y->ab (q y-q x-(y-x)*d x)≤K*(ab (y-x)*ab (y-x))):
    ∃e,0<e∧∀x y,D x->D y->x<y->y-x≤e->vrs (q::q1::r) x-vrs (q::q1::r) y=if qGp q x y then 1 else 0:=by
  have hs1:SC D (q1::r):=h.2.2.1
  obtain ⟨L0,hL0,l0⟩:=h.1
  obtain ⟨L1,hL1,l1⟩:=h.2.1
  obtain ⟨d0,p0,A0⟩:=SC.stay _ (Nat.le_refl _) h
  obtain ⟨d1,p1,A1⟩:=SC.stay _ (Nat.le_refl _) hs1
  obtain ⟨e,he,hf⟩:=SC.far h
  obtain ⟨d3,p3,m3⟩:∃d,0<d∧d*(1+L0)=e/2:=⟨_,qDr (a:=e/2) (b:=1+L0) (by grind) (by grind)⟩
  obtain ⟨d4,p4,m4⟩:∃d,0<d∧d*(1+L1)=e/2:=⟨_,qDr (a:=e/2) (b:=1+L1) (by grind) (by grind)⟩
  obtain ⟨u,pu,mu⟩:∃d,0<d∧d*k=e:=⟨_,qDr (a:=e) (b:=k) he hk⟩
  obtain ⟨d5,p5,m5⟩:∃d,0<d∧d*(1+K)=u/2:=⟨_,qDr (a:=u/2) (b:=1+K) (by grind) (by grind)⟩
  refine ⟨mn (mn d0 d1) (mn (mn d3 d4) d5),qJ6 (qJ6 p0 p1) (qJ6 (qJ6 p3 p4) p5),fun x y hx hy hxy hd=>?_⟩
  have hab:ab (x-y)=y-x:=by unfold ab;rw [if_pos (by grind)];grind
  have hab':ab (y-x)=y-x:=by unfold ab;rw [if_neg (by grind)]
  obtain ⟨hd01,hd35⟩:=qRt hd
  obtain ⟨hd0,hd1⟩:=qRt hd01
  obtain ⟨hd34,hd5⟩:=qRt hd35
  obtain ⟨hd3,hd4⟩:=qRt hd34
  clear hd01 hd35 hd34 hd
  have v0:=l0 x y hx hy
  have v1:=l1 x y hx hy
  rw [hab] at v0 v1
  have w0:=qKr (e:=e/2) hL0 (by grind) (by grind) hd3 (by grind)
  have w1:=qKr (e:=e/2) hL1 (by grind) (by grind) hd4 (by grind)
  unfold vrs
  by_cases hb:e/2≤ab (q x)
  · obtain ⟨s1,s2⟩:=qVh (x:=q x) (y:=q y) (by grind)
    have:=A0 x y hx hy (by rw [hab];exact hd0) s2 s1
    have e1:∀z,sgs (q::q1::r) z=sgQ (q z)::sgs (q1::r) z:=fun z=>rfl
    rw [e1,e1,qK5 s2,qK5 (by rw [←s1];exact s2),this]
    have hc:¬qGp q x y:=by
      unfold qGp
      rcases qC1 (q x) with ⟨h1,g1⟩|⟨h1,g1⟩|⟨h1,g1⟩<;>rcases qC1 (q y) with ⟨h2,g2⟩|⟨h2,g2⟩|⟨h2,g2⟩<;>rw [g1,g2] at s1<;>first|(exact absurd s1 (by decide))|(rw [g1] at s2;exact absurd rfl s2)|grind
    rw [if_neg hc];omega
  · have hqy:ab (q y)<e:=by
      have:=ab_sub (q x) (q x-q y)
      have e':q x-(q x-q y)=q y:=by grind
      rw [e'] at this
      grind
    have cx:e≤ab (q1 x):=(hf x hx).resolve_left (by grind)
    obtain ⟨s1,s2⟩:=qVh (x:=q1 x) (y:=q1 y) (by grind)
    have:=A1 x y hx hy (by rw [hab];exact hd1) s2 s1
    have e1:∀z,sgs (q::q1::r) z=sgQ (q z)::sgQ (q1 z)::sgs r z:=fun z=>rfl
    rw [e1,e1]
    have step:∀(a s:Int) (l:List Int),(a=0∨a=s∨a= -s)->s≠0->chg 0 (a::s::l)=(if a= -s then 1 else 0)+chg s l:=fun a s l ha hs=>by
      rcases ha with rfl|rfl|rfl
      · rw [chg_zero,qK5 hs,if_neg (by omega)];omega
      · rw [qK5 hs,qN3 hs,if_neg (by omega)];omega
      · rw [qK5 (by omega),qLp (by omega) hs (by omega),if_pos rfl]
    have hm:∀t:Rat,sgQ t=0∨sgQ t=sgQ (q1 x)∨sgQ t= -sgQ (q1 x):=fun t=>by
      rcases qC1 t with ⟨_,g1⟩|⟨_,g1⟩|⟨_,g1⟩<;>rcases qC1 (q1 x) with ⟨_,g2⟩|⟨_,g2⟩|⟨_,g2⟩<;>first|(rw [g2] at s2;exact absurd rfl s2)|(rw [g1,g2];decide)
    rw [←s1,step _ _ _ (hm (q x)) s2,step _ _ _ (hm (q y)) s2]
    rw [←s1] at this
    rw [this]
    -- the first function goes the way of the second one's sign
    have hT:=ht x y hx hy
    rw [hab'] at hT
    have hge:=qTk (q y-q x-(y-x)*d x)
    have hq1:=hq x hx
    have t1:K*(y-x)<u/2:=qKr hK (by grind) (by grind) hd5 (by grind)
    have t2:K*(y-x)*(y-x)≤u/2*(y-x):=qCl (Rat.le_of_lt t1) (by grind)
    rcases qC1 (q1 x) with ⟨h1,g1⟩|⟨h1,g1⟩|⟨h1,g1⟩
    · have cx':e≤k*d x:=by rw [←hq1];unfold ab at cx;rw [if_neg (by grind)] at cx;exact cx
      have hdx:u≤d x:=by
        refine Rat.not_lt.1 fun h=>?_
        have:=Rat.mul_lt_mul_of_pos_left h hk
        grind
      have t3:u*(y-x)≤d x*(y-x):=qCl hdx (by grind)
      have t4:0<u*(y-x):=Rat.mul_pos pu (by grind)
      have up:q x<q y:=by grind
      rw [g1]
      have hc:=cross_up up
      unfold qGp
      omega
    · rw [g1] at s2;exact absurd rfl s2
    · have cx':e≤k*(-(d x)):=by
        have:k*(-(d x))= -(q1 x):=by rw [hq1];grind
        rw [this];unfold ab at cx;rw [if_pos h1] at cx;exact cx
      have hdx:u≤ -(d x):=by
        refine Rat.not_lt.1 fun h=>?_
        have:=Rat.mul_lt_mul_of_pos_left h hk
        grind
      have t3:u*(y-x)≤ -(d x)*(y-x):=qCl hdx (by grind)
      have t4:0<u*(y-x):=Rat.mul_pos pu (by grind)
      have dn:q y<q x:=by grind
      rw [g1]
      have hc:=cross_dn dn
      unfold qGp
      omega
def inD(X x:Rat):Prop:=ab x≤X
theorem inD_mid{X lo hi z:Rat}(h1:inD X lo)(h2:inD X hi)(h3:lo≤z)(h4:z≤hi):inD X z:=by
 unfold inD ab at *
 split at h1<;>split at h2<;>split<;>grind
theorem qAt{a b c d:Rat}(h1:a≤b)(h2:c≤d)(hc:0≤c)(hb:0≤b):a*c≤b*d:=by
 have h3:=qCl h1 hc
 have h4:=qCl h2 hb
 rw [Rat.mul_comm c,Rat.mul_comm d] at h4
 exact Rat.le_trans h3 h4
theorem bd_poly(X:Rat)(hX:0≤X):∀p:List Rat,Bd (inD X) (qAb p)
 |[]=>⟨0,Rat.le_refl,fun x _=>by show ab 0≤0;decide+kernel⟩
 |a::p=>by
  obtain ⟨M,hM,h⟩:=bd_poly X hX p
  refine ⟨ab a+X*M,by have:=qAo a;have:=Rat.mul_nonneg hX hM;grind,fun x hx=>?_⟩
  rw [qF8]
  have h1:=qSt a (x*qAb p x)
  rw [qEu] at h1
  have h2:=qAt hx (h x hx) (qAo _) hX
  grind
theorem qOt(X:Rat)(hX:0≤X):∀p:List Rat,Lp (inD X) (qAb p)
 |[]=>⟨0,Rat.le_refl,fun x y _ _=>by show ab (0-0)≤0*ab (x-y);rw [Rat.zero_mul];decide+kernel⟩
 |a::p=>by
  obtain ⟨M,hM,h⟩:=bd_poly X hX p
  obtain ⟨L,hL,k⟩:=qOt X hX p
  refine ⟨X*L+M,by have:=Rat.mul_nonneg hX hL;grind,fun x y hx hy=>?_⟩
  rw [qF8,qF8]
  have e:a+x*qAb p x-(a+y*qAb p y)=x*(qAb p x-qAb p y)+(x-y)*qAb p y:=by grind
  rw [e]
  have h1:=qSt (x*(qAb p x-qAb p y)) ((x-y)*qAb p y)
  rw [qEu,qEu] at h1
  have h2:=qAt hx (k x y hx hy) (qAo _) hX
  have h3:=qAt (h y hy) (Rat.le_refl (a:=ab (x-y))) (qAo _) hM
  grind
theorem taylor(X:Rat)(hX:0≤X):∀p:List Rat,∃K,0≤K∧∀x y,inD X x->inD X y->ab (qAb p y-qAb p x-(y-x)*dEv p x)≤K*(ab (y-x)*ab (y-x))
 |[]=>⟨0,Rat.le_refl,fun x y _ _=>by rw [Rat.zero_mul,qK3];show ab (0-0-(y-x)*0)≤0;rw [Rat.mul_zero];decide+kernel⟩
 |a::p=>by
  obtain ⟨M,hM,h⟩:=bd_poly X hX (derC p)
  obtain ⟨K,hK,k⟩:=taylor X hX p
  refine ⟨X*K+M,by have:=Rat.mul_nonneg hX hK;grind,fun x y hx hy=>?_⟩
  rw [qF8,qF8,qEk]
  have e:a+y*qAb p y-(a+x*qAb p x)-(y-x)*(qAb p x+x*dEv p x)=y*(qAb p y-qAb p x-(y-x)*dEv p x)+(y-x)*(y-x)*dEv p x:=by grind
  rw [e]
  have h1:=qSt (y*(qAb p y-qAb p x-(y-x)*dEv p x)) ((y-x)*(y-x)*dEv p x)
  rw [qEu,qEu,qEu] at h1
  have h2:=qAt hy (k x y hx hy) (qAo _) hX
  have h4:ab (dEv p x)≤M:=h x hx
  have h3:=qAt h4 (Rat.le_refl (a:=ab (y-x)*ab (y-x))) (Rat.mul_nonneg (qAo _) (qAo _)) hM
  grind
structure ChS (ch:List Rat->List Rat):Prop where
 tr:∀p,Tr p->Tr (ch p)
 len:∀p,(ch p).length=p.length
 ev:∀p,Tr p->∃k:Rat,0<k∧∀x,qAb p x=k*qAb (ch p) x
def Bez(a b:List Rat):Prop:=∃u v:List Rat,∀x,qAb u x*qAb a x+qAb v x*qAb b x=1
theorem qN5{a:List Rat}(ta:Tr a)(h:Bez a []):∃c:Rat,c≠0∧a=[c]:=by
 obtain ⟨u,v,h⟩:=h
 have e:∀x,qAb u x*qAb a x=1:=fun x=>by
  have:=h x
  have e0:qAb [] x=0:=rfl
  rw [e0,Rat.mul_zero,Rat.add_zero] at this
  exact this
 have a0:a≠[]:=fun ea=>by
  have:=e 0
  rw [ea] at this
  have e0:qAb [] 0=0:=rfl
  rw [e0,Rat.mul_zero] at this
  exact absurd this (by decide+kernel)
 have u0:qAd u≠[]:=fun eu=>by
  have:=e 0
  rw [←qAp u,eu] at this
  have e0:qAb [] 0=0:=rfl
  rw [e0,Rat.zero_mul] at this
  exact absurd this (by decide+kernel)
 have e1:mulT (qAd u) a=[1]:=(qEm _ _).ext (fun _=>by decide+kernel) fun i=>by
  unfold mulT
  rw [qBi]
  exact qA0 (fun x=>by rw [qAg,qAp,e x];simp only [qAb];grind) i
 have l1:=(qE0 (qAl u) ta u0 a0).1
 rw [e1] at l1
 have:=qA2 u0
 have:=qA2 a0
 have hl:a.length=1:=by simp at l1;omega
 match a,hl with
 |[c],_=>exact ⟨c,fun ec=>ta (by simp) (by rw [ec];rfl),rfl⟩
theorem qGa(ch:List Rat->List Rat){n:Nat}{a b:List Rat}(a0:a≠[]):qBf ch (n+1) a b=a::(if b=[] then [] else qBf ch n b (ch (negC (remP a b)))):=by
 rw [qBf,if_neg a0]
 split<;>rfl
theorem bez_next{ch:List Rat->List Rat}(hc:ChS ch){a b:List Rat}(ta:Tr a)(tb:Tr b)(b0:b≠[])(h:Bez a b):Bez b (ch (negC (remP a b)))∧∃k:Rat,0<k∧∀x,qAb a x=qAb (divP a b).1 x*qAb b x-k*qAb (ch (negC (remP a b))) x:=by
 obtain ⟨u,v,h⟩:=h
 obtain ⟨k,hk,e⟩:=hc.ev (negC (remP a b)) (qJ2 (qEl ta tb b0))
 have e1:∀x,qAb a x=qAb (divP a b).1 x*qAb b x-k*qAb (ch (negC (remP a b))) x:=fun x=>by
  have hs:=qE1 x (qBy ta tb b0).2.2.2
  rw [qBh,qAg] at hs
  have h2:=e x
  unfold negC at h2
  rw [qA4] at h2
  rw [show remP a b=(divP a b).2 from rfl] at h2
  unfold negC
  rw [show remP a b=(divP a b).2 from rfl]
  grind
 refine ⟨⟨addC (mulC u (divP a b).1) v,smul (-k) u,fun x=>?_⟩,k,hk,e1⟩
 rw [qBh,qAg,qA4,←h x,e1 x]
 grind
theorem sc_chain{ch:List Rat->List Rat}(hc:ChS ch)(X:Rat)(hX:0≤X):∀(n:Nat) {a b:List Rat},Tr a->Tr b->a≠[]->b.length<n->(b≠[]->b.length<a.length)->Bez a b->SC (inD X) ((qBf ch n a b).map qAb)
 |0,a,b,_,_,_,h,_,_=>by omega
 |n+1,a,b,ta,tb,a0,hn,hl,hb=>by
  rw [qGa ch a0]
  by_cases b0:b=[]
  ·rw [if_pos b0]
   subst b0
   obtain ⟨c,c0,rfl⟩:=qN5 ta hb
   exact ⟨c,c0,fun x _=>by simp only [qAb];grind⟩
  ·rw [if_neg b0]
   have hl2:=hl b0
   obtain ⟨h1,k,hk,h2⟩:=bez_next hc ta tb b0 hb
   have tc:Tr (ch (negC (remP a b))):=hc.tr _ (qJ2 (qEl ta tb b0))
   have lc:(ch (negC (remP a b))).length<b.length:=by
    rw [hc.len]
    show (smul (-1) _).length<_
    rw [qBd]
    exact qC4 ta tb b0
   have ih:=sc_chain hc X hX n tb tc b0 (by omega) (fun _=>lc) h1
   obtain ⟨m,rfl⟩:∃m,n=m+1:=⟨n-1,by have:=qA2 b0;omega⟩
   rw [qGa ch b0] at ih ⊢
   generalize ch (negC (remP a b))=c at *
   by_cases c0:c=[]
   ·rw [if_pos c0] at ih ⊢
    exact ⟨qOt X hX a,qOt X hX b,ih,trivial⟩
   ·rw [if_neg c0] at ih ⊢
    obtain ⟨j,rfl⟩:∃j,m=j+1:=⟨m-1,by have:=qA2 c0;omega⟩
    rw [qGa ch c0] at ih ⊢
    exact ⟨qOt X hX a,qOt X hX b,ih,qAb (divP a b).1,k,hk,bd_poly X hX _,fun x _=>h2 x⟩
theorem qIn{ch:List Rat->List Rat}(hc:ChS ch){X:Rat}(hX:0≤X){Q:List Rat}(tQ:Tr Q)(hb:Bez Q (derP Q)){n:Nat}(hn:Q.length<n):∃e:Rat,0<e∧∀x y,inD X x->inD X y->x<y->y-x≤e->vrs ((qBf ch n Q (derP Q)).map qAb) x-vrs ((qBf ch n Q (derP Q)).map qAb) y=if qGp (qAb Q) x y then 1 else 0:=by
 have tE:Tr (derP Q):=qAl _
 have Q0:Q≠[]:=fun e=>by
  obtain ⟨u,v,h⟩:=hb
  have:=h 0
  rw [e] at this
  have e0:qAb [] 0=0:=rfl
  have e1:qAb (derP []) 0=0:=rfl
  rw [e0,e1,Rat.mul_zero,Rat.mul_zero] at this
  exact absurd this (by decide+kernel)
 have lt:(derP Q).length<Q.length:=by
  have:=qK2 (p:=Q) (by rw [qAr tQ];exact Q0)
  rwa [qAr tQ] at this
 obtain ⟨m,rfl⟩:∃m,n=m+1:=⟨n-1,by omega⟩
 by_cases E0:derP Q=[]
 ·rw [E0] at hb
  obtain ⟨c,c0,rfl⟩:=qN5 tQ hb
  refine ⟨1,by decide,fun x y _ _ _ _=>?_⟩
  rw [qGa ch Q0,if_pos E0]
  have ev:∀z,qAb [c] z=c:=fun z=>by simp only [qAb];grind
  have hcr:¬qGp (qAb [c]) x y:=by unfold qGp;rw [ev,ev];grind
  rw [if_neg hcr]
  simp [vrs,sgs,chg,ev]
 ·have hs:=sc_chain hc X hX (m+1) tQ tE Q0 (by omega) (fun _=>lt) hb
  obtain ⟨K,hK,ht⟩:=taylor X hX Q
  obtain ⟨j,rfl⟩:∃j,m=j+1:=⟨m-1,by have:=qA2 E0;omega⟩
  rw [qGa ch Q0,if_neg E0,qGa ch E0] at hs ⊢
  exact SC.short hs (k:=1) (by decide) (d:=dEv Q) (fun x _=>by rw [Rat.one_mul];exact qCy Q x) hK ht
theorem qT6(x:Rat):∃N:Nat,x≤(N:Rat):=by
 refine ⟨(x.floor+1).toNat,?_⟩
 have h1:=Rat.lt_floor_add_one x
 have h2:((x.floor+1:Int):Rat)≤(((x.floor+1).toNat:Int):Rat):=Rat.intCast_le_intCast.2 (by omega)
 rw [←Rat.intCast_natCast]
 exact Rat.le_trans (Rat.le_of_lt h1) h2
theorem ways{X:Rat}{R:Rat->Rat->Prop}(tr:∀x y z,R x y->R y z->R x z){e:Rat}(he:0<e)(h:∀x y,inD X x->inD X y->x<y->y-x≤e->R x y){lo hi:Rat}(hl:lo<hi)(h1:inD X lo)(h2:inD X hi):R lo hi:=by
 have key:∀(N:Nat) (lo hi:Rat),lo<hi->inD X lo->inD X hi->hi-lo≤(N:Rat)*e->R lo hi:=by
  intro N
  induction N with
  |zero=>
   intro lo hi hl h1 h2 hN
   have e0:((0:Nat):Rat)=0:=rfl
   rw [e0,Rat.zero_mul] at hN
   grind
  |succ N ih=>
   intro lo hi hl h1 h2 hN
   by_cases hs:hi-lo≤e
   ·exact h lo hi h1 h2 hl hs
   ·have hm:inD X (lo+e):=inD_mid h1 h2 (by grind) (by grind)
    refine tr lo (lo+e) hi (h lo (lo+e) h1 hm (by grind) (by grind)) (ih (lo+e) hi (by grind) hm h2 ?_)
    have e1:((N+1:Nat):Rat)=(N:Rat)+1:=by rw [Rat.natCast_add];rfl
    rw [e1] at hN
    grind
 obtain ⟨N,hN⟩:=qT6 ((hi-lo)/e)
 refine key N lo hi hl h1 h2 ?_
 have h3:=qCl hN (Rat.le_of_lt he)
 rwa [qAm (Rat.ne_of_gt he)] at h3
theorem inD_two(x y:Rat):∃X:Rat,0≤X∧inD X x∧inD X y:=by
 refine ⟨ab x+ab y,by have:=qAo x;have:=qAo y;grind,?_,?_⟩<;>(unfold inD;have:=qAo x;have:=qAo y;grind)
theorem vrs_le{ch:List Rat->List Rat}(hc:ChS ch){Q:List Rat}(tQ:Tr Q)(hb:Bez Q (derP Q)){n:Nat}(hn:Q.length<n){lo hi:Rat}(hl:lo<hi):vrs ((qBf ch n Q (derP Q)).map qAb) hi≤vrs ((qBf ch n Q (derP Q)).map qAb) lo:=by
 obtain ⟨X,hX,h1,h2⟩:=inD_two lo hi
 obtain ⟨e,he,h⟩:=qIn hc hX tQ hb hn
 refine ways (R:=fun x y=>vrs ((qBf ch n Q (derP Q)).map qAb) y≤vrs ((qBf ch n Q (derP Q)).map qAb) x) (fun x y z a b=>Int.le_trans b a) he (fun x y hx hy hxy hd=>?_) hl h1 h2
 have:=h x y hx hy hxy hd
 split at this<;>omega
def qOj:List Rat->List Rat
 |[]=>[1]
 |s::S=>mulC [-s,1] (qOj S)
def qIf:List Rat->Rat->Rat
 |[],_=>1
 |s::S,x=>(x-s)*qIf S x
theorem qD4(s x:Rat):qAb [-s,1] x=x-s:=by simp only [qAb];grind
theorem qJ8(x:Rat):qAb [1] x=1:=by simp only [qAb];grind
theorem qFs:∀(S:List Rat) (x:Rat),qAb (qOj S) x=qIf S x
 |[],x=>qJ8 x
 |s::S,x=>by rw [qOj,qAg,qD4,qFs S x];rfl
theorem qKp:∀{S:List Rat} {s:Rat},s∈S->qIf S s=0
 |t::S,s,h=>by
  rcases List.mem_cons.1 h with rfl|h
  ·show (s-s)*_=0;rw [Rat.sub_self,Rat.zero_mul]
  ·show (s-t)*_=0;rw [qKp h,Rat.mul_zero]
theorem mul0{a b:Rat}(h:a*b=0)(ha:a≠0):b=0:=(Rat.mul_eq_zero.1 h).resolve_left ha
theorem qQa{p:List Rat}{s:Rat}(h:qAb p s=0)(x:Rat):qAb p x=(x-s)*qAb (syn p s) x:=by
 have:=qM0 p s x
 rw [h,Rat.zero_add] at this
 exact this
theorem factor:∀{S:List Rat} {Q:List Rat},S.Nodup->(∀s∈S,qAb Q s=0)->∃w:List Rat,∀x,qAb Q x=qIf S x*qAb w x
  |[],Q,_,_=>⟨Q,fun x=>by show _=1*_;rw [Rat.one_mul]⟩
  |s::S,Q,hn,h=>by
    obtain ⟨n1,n2⟩:=List.nodup_cons.1 hn
    have e:=qQa (h s List.mem_cons_self)
    obtain ⟨w,hw⟩:=factor (Q:=syn Q s) n2 (fun t ht=>by
      have h1:=h t (List.mem_cons_of_mem _ ht)
      rw [e t] at h1
      exact mul0 h1 (fun e2=>n1 (by have:t=s:=by grind
                                    rw [←this];exact ht)))
    exact ⟨w,fun x=>by rw [e x,hw x];show _=(x-s)*qIf S x*_;rw [Rat.mul_assoc]⟩
theorem lin_ne(r:Rat):∃x,qAb [-r,1] x≠0:=⟨r+1,by rw [qD4];grind⟩
theorem prod_exists(S:List Rat):∃x,qAb (qOj S) x≠0:=by
 induction S with
 |nil=>exact ⟨0,by rw [qFs];show (1:Rat)≠0;decide⟩
 |cons s S ih=>exact mul_ne2 (lin_ne s) ih
theorem strip:∀{R:List Rat} {w g q:List Rat},(∀r∈R,qAb w r≠0)->(∀x,qAb w x*qAb g x=qIf R x*qAb q x)->∃f:List Rat,(∀x,qAb w x*qAb f x=qAb q x)∧∀x,qAb g x=qIf R x*qAb f x
 |[],w,g,q,_,h=>⟨g,fun x=>by rw [h x];show 1*_=_;rw [Rat.one_mul],fun x=>by show _=1*_;rw [Rat.one_mul]⟩
 |r::R,w,g,q,hw,h=>by
  have hr:qAb g r=0:=by
   have:=h r
   rw [qKp List.mem_cons_self,Rat.zero_mul] at this
   exact mul0 this (hw r List.mem_cons_self)
  have e:=qQa hr
  have k:=qSo (a:=[-r,1]) (b:=mulC w (syn g r)) (c:=mulC (qOj R) q) (lin_ne r) fun x=>by
   rw [qD4,qAg,qAg,qFs]
   have:=h x
   rw [e x] at this
   have e2:qIf (r::R) x=(x-r)*qIf R x:=rfl
   rw [e2] at this
   grind
  obtain ⟨f,hf1,hf2⟩:=strip (R:=R) (w:=w) (g:=syn g r) (q:=q) (fun t ht=>hw t (List.mem_cons_of_mem _ ht)) (fun x=>by
   have:=k x
   rwa [qAg,qAg,qFs] at this)
  exact ⟨f,hf1,fun x=>by rw [e x,hf2 x];show _=(x-r)*qIf R x*_;rw [Rat.mul_assoc]⟩
theorem root_desc{Q W g:List Rat}{s:Rat}(hQ:qAb Q s≠0)(h5:∀x,qAb Q x*dEv g x=qAb g x*qAb W x):∀(n j:Nat) (H t:List Rat),1≤j->t.length≤n->(∃x,qAb t x≠0)->(∃x,qAb H x≠0)->(∀x,qAb g x=qAb H x*qAb t x)->(∀x,dEv g x=dEv H x*qAb t x+qAb H x*dEv t x)->(∀x,dEv H x*(x-s)=(j:Rat)*qAb H x)->False
 |0,j,H,t,hj,hl,⟨x,hx⟩,_,_,_,_=>by
  have:t=[]:=List.length_eq_zero_iff.1 (by omega)
  rw [this] at hx
  exact hx rfl
 |n+1,j,H,t,hj,hl,ht,H0,e1,e2,e3=>by
  have k:=qSo (a:=H) (b:=mulC Q (addC (smul (j:Rat) t) (mulC [-s,1] (derC t)))) (c:=mulC [-s,1] (mulC t W)) H0 fun x=>by
   rw [qAg,qBh,qA4,qAg,qD4,qAg,qAg,qD4]
   show _*(_*(_+_*dEv t x))=_
   have a:=h5 x
   rw [e2 x,e1 x] at a
   have b:=e3 x
   have c:qAb H x*(qAb Q x*((j:Rat)*qAb t x+(x-s)*dEv t x))=qAb Q x*((j:Rat)*qAb H x*qAb t x+qAb H x*dEv t x*(x-s)):=by grind
   rw [c,←b]
   grind
  have hs:qAb t s=0:=by
   have:=k s
   rw [qAg,qBh,qA4,qAg,qD4,qAg,qD4,Rat.sub_self,Rat.zero_mul,Rat.zero_mul,Rat.add_zero] at this
   have h1:=mul0 this hQ
   refine mul0 h1 ?_
   intro e
   have e0:((j:Nat):Rat)=((0:Nat):Rat):=e
   have:=Rat.natCast_inj.1 e0
   omega
  have e:=qQa hs
  obtain ⟨y,hy⟩:=ht
  refine root_desc hQ h5 n (j+1) (mulC H [-s,1]) (syn t s) (by omega) (by rw [syn_len];omega) ⟨y,fun e0=>hy (by rw [e y,e0,Rat.mul_zero])⟩ (mul_ne2 H0 (lin_ne s)) (fun x=>?_) (fun x=>?_) (fun x=>?_)
  ·rw [e1 x,qAg,qD4,e x];grind
  ·have d1:dEv t x=dEv [-s,1] x*qAb (syn t s) x+qAb [-s,1] x*dEv (syn t s) x:=by
    rw [←qDs]
    exact qIj (qA0 fun z=>by rw [qAg,qD4];exact e z) x
   rw [e2 x,qDs,qAg,qD4,d1,e x,qD4];grind
  ·have d2:dEv [-s,1] x=1:=by rw [qEk,qEk,qK3];simp only [qAb];grind
   rw [qDs,qAg,qD4,d2]
   have b:=e3 x
   have e4:((j+1:Nat):Rat)=(j:Rat)+1:=by rw [Rat.natCast_add];rfl
   rw [e4]
   grind
theorem root_keep{p Q:List Rat}(tp:Tr p)(p0:p≠[])(hQ:∀x,qAb p x=qAb Q x*qAb (gcdP p (derP p)) x){s:Rat}(hs:qAb p s=0):qAb Q s=0:=by
 refine Classical.byContradiction fun hn=>?_
 have td:Tr (derP p):=qAl _
 obtain ⟨g1,g2⟩:=qEo tp td
 obtain ⟨g3,g4⟩:=g2 (.inl p0)
 obtain ⟨R,hR⟩:=qH7 (qG4 tp td).2
 generalize gcdP p (derP p)=g at *
 have gs:qAb g s=0:=by
  rw [hQ s] at hs
  exact mul0 hs hn
 have e:=qQa gs
 obtain ⟨y,hy⟩:=ev_ne g1 g3
 have dp:∀x,dEv p x=dEv Q x*qAb g x+qAb Q x*dEv g x:=fun x=>by
  rw [←qDs]
  exact qIj (qA0 fun y=>by rw [qAg];exact hQ y) x
 refine root_desc (g:=g) (W:=subC R (derC Q)) hn (fun x=>?_) (syn g s).length 1 [-s,1] (syn g s) (Nat.le_refl _) (Nat.le_refl _) ⟨y,fun e0=>hy (by rw [e y,e0,Rat.mul_zero])⟩ (lin_ne s) (fun x=>by rw [qD4,e x]) (fun x=>?_) (fun x=>?_)
 ·rw [qEj]
  show _=_*(_-dEv Q x)
  have a:=hR x
  rw [qCy,dp x] at a
  grind
 ·rw [←qDs]
  exact qIj (qA0 fun z=>by rw [qAg,qD4];exact e z) x
 ·have d2:dEv [-s,1] x=1:=by rw [qEk,qEk,qK3];simp only [qAb];grind
  have e4:((1:Nat):Rat)=1:=rfl
  rw [d2,qD4,e4]
def ded:List Rat->List Rat×List Rat
 |[]=>([],[])
 |r::L=>if r∈(ded L).1 then ((ded L).1,r::(ded L).2) else (r::(ded L).1,(ded L).2)
theorem ded_mem:∀(L:List Rat) (x:Rat),x∈(ded L).1↔x∈L
 |[],x=>by simp [ded]
 |r::L,x=>by
  have ih:=ded_mem L
  rw [ded]
  split
  ·rename_i h
   rw [ih x,List.mem_cons]
   exact ⟨.inr,fun h2=>h2.elim (fun e=>by rw [e];exact (ih r).1 h) id⟩
  ·rw [List.mem_cons,List.mem_cons,ih x]
theorem qSh:∀L:List Rat,(ded L).1.Nodup
 |[]=>by simp [ded]
 |r::L=>by
  rw [ded]
  split
  ·exact qSh L
  ·rename_i h
   exact List.nodup_cons.2 ⟨h,qSh L⟩
theorem ded_rest:∀(L:List Rat) (x:Rat),x∈(ded L).2->x∈(ded L).1
 |[],x,h=>by simp [ded] at h
 |r::L,x,h=>by
  have ih:=ded_rest L x
  rw [ded] at h ⊢
  split at h
  ·rename_i hr
   rw [if_pos hr]
   rcases List.mem_cons.1 h with rfl|h
   ·exact hr
   ·exact ih h
  ·rename_i hr
   rw [if_neg hr]
   exact List.mem_cons_of_mem _ (ih h)
theorem ded_prod:∀(L:List Rat) (x:Rat),qIf L x=qIf (ded L).1 x*qIf (ded L).2 x
 |[],x=>by show (1:Rat)=1*1;rw [Rat.one_mul]
 |r::L,x=>by
  have ih:=ded_prod L x
  rw [ded]
  have e:qIf (r::L) x=(x-r)*qIf L x:=rfl
  rw [e,ih]
  split
  ·show _=_*((x-r)*_);grind
  ·show _=(x-r)*_*_;grind
theorem same_side{x y t:Rat}(hxy:x<y)(h:¬(x≤t∧t≤y)):0<(x-t)*(y-t)∧((t≤y)↔(t≤x)):=by
 by_cases h1:t<x
 ·exact ⟨Rat.mul_pos (by grind) (by grind),by constructor<;>intro<;>grind⟩
 ·have h2:y<t:=by grind
  have h3:0<(t-x)*(t-y):=Rat.mul_pos (by grind) (by grind)
  exact ⟨by grind,by constructor<;>intro<;>grind⟩
theorem pos_cases{a b:Rat}(h:0<a*b):(0<a∧0<b)∨(a<0∧b<0):=by
 by_cases ha:0<a
 ·left
  refine ⟨ha,?_⟩
  refine Rat.not_le.1 fun hb=>?_
  have:=Rat.mul_nonneg (Rat.le_of_lt ha) (show 0≤ -b by grind)
  grind
 ·right
  have ha2:a<0:=by
   by_cases e:a=0
   ·subst e;rw [Rat.zero_mul] at h;exact absurd h (by decide)
   ·grind
  refine ⟨ha2,?_⟩
  refine Rat.not_le.1 fun hb=>?_
  have:=Rat.mul_nonneg (show 0≤ -a by grind) hb
  grind
theorem sq_nonneg(t:Rat):0≤t*t:=by
 by_cases h:0≤t
 ·exact Rat.mul_nonneg h h
 ·have:=Rat.mul_nonneg (show 0≤ -t by grind) (show 0≤ -t by grind)
  grind
def isE(e:List Rat):Prop:=e=[1]∨e=[3,1,1]
theorem ev_quad(x:Rat):qAb [3,1,1] x=3+x+x*x:=by simp only [qAb];grind
theorem isE.pos{e:List Rat}(h:isE e)(x:Rat):0<qAb e x:=by
 rcases h with rfl|rfl
 ·rw [qJ8];decide
 ·rw [ev_quad]
  have:=sq_nonneg (x+1/2)
  grind
theorem isE.tr{e:List Rat}(h:isE e):Tr e∧e≠[]∧lead e=1∧e.length≤3:=by
 rcases h with rfl|rfl
 ·exact ⟨fun _=>by decide+kernel,by simp,rfl,by decide⟩
 ·exact ⟨fun _=>by decide+kernel,by simp,rfl,by decide⟩
theorem isE.ht{e:List Rat}(h:isE e):HtP 2 e:=by
 have l1:ln 1<2:=by rw [qKw];decide
 have l0:ln 0<2:=by rw [qF7];decide
 have l3:ln 3<2:=by unfold ln;rw [qCp (by decide) (by decide)];decide
 rcases h with rfl|rfl
 ·exact ⟨1,fun i=>match i with|0=>1|_+1=>0,by decide,l1,fun i=>match i with
   |0=>⟨l1,by decide+kernel⟩
   |i+1=>⟨l0,(Rat.zero_divInt 1).symm⟩⟩
 ·exact ⟨1,fun i=>match i with|0=>3|1=>1|2=>1|_+3=>0,by decide,l1,fun i=>match i with
   |0=>⟨l3,by decide+kernel⟩
   |1=>⟨l1,by decide+kernel⟩
   |2=>⟨l1,by decide+kernel⟩
   |i+3=>⟨l0,(Rat.zero_divInt 1).symm⟩⟩
theorem E_split{w f q:List Rat}(tw:Tr w)(hq:isE q)(h:∀x,qAb w x*qAb f x=qAb q x):∃(c:Rat) (e e':List Rat),c≠0∧isE e∧isE e'∧w=smul c e∧∀x,c*qAb f x=qAb e' x:=by
 have smul1:∀c:Rat,[c]=smul c [1]:=fun c=>by show [c]=[c*1];rw [Rat.mul_one]
 have evc:∀c x:Rat,qAb [c] x=c:=fun c x=>by simp only [qAb];grind
 have w0:w≠[]:=fun e=>by
  have:=h 0
  rw [e] at this
  have hp:=hq.pos 0
  rw [←this] at hp
  have:qAb [] 0*qAb f 0=0:=Rat.zero_mul _
  rw [this] at hp
  exact absurd hp (by decide)
 have f0:qAd f≠[]:=fun e=>by
  have:=h 0
  rw [←qAp f,e] at this
  have hp:=hq.pos 0
  rw [←this] at hp
  have:qAb w 0*qAb [] 0=0:=Rat.mul_zero _
  rw [this] at hp
  exact absurd hp (by decide)
 obtain ⟨q1,q2,q3,q4⟩:=hq.tr
 have e1:mulT w (qAd f)=q:=(qEm _ _).ext q1 fun i=>by
  unfold mulT
  rw [qBi]
  exact qA0 (fun x=>by rw [qAg,qAp,h x]) i
 have l1:=(qE0 tw (qAl f) w0 f0).1
 rw [e1] at l1
 have lw:=qA2 w0
 have lf:=qA2 f0
 by_cases c1:w.length=1
 ·match w,c1 with
  |[c],_=>
   have c0:c≠0:=fun e=>tw (by simp) (by rw [e];rfl)
   exact ⟨c,[1],q,c0,.inl rfl,hq,smul1 c,fun x=>by rw [←h x,evc]⟩
 ·rcases hq with rfl|rfl
  ·exfalso;simp at l1;omega
  ·by_cases c2:w.length=2
   ·exfalso
    match w,c2 with
    |[a,b],_=>
     have b0:b≠0:=fun e=>tw (by simp) (by rw [e];rfl)
     have e:=h (-a/b)
     have hb: -a/b*b= -a:=qAm b0
     have ew:qAb [a,b] (-a/b)=0:=by simp only [qAb];grind
     rw [ew,Rat.zero_mul] at e
     have hp:=isE.pos (e:=[3,1,1]) (.inr rfl) (-a/b)
     rw [←e] at hp
     exact absurd hp (by decide)
   ·have f1:(qAd f).length=1:=by simp at l1;omega
    obtain ⟨d,hd⟩:∃d,qAd f=[d]:=by
     match qAd f,f1 with
     |[d],_=>exact ⟨d,rfl⟩
    have d0:d≠0:=fun e=>by
     have:=qAl f f0
     rw [hd,e] at this
     exact this rfl
    have ef:∀x,qAb f x=d:=fun x=>by rw [←qAp,hd,evc]
    have dd:d*(1/d)=1:=by rw [Rat.div_def,Rat.one_mul];exact Rat.mul_inv_cancel _ d0
    have c0:(1/d:Rat)≠0:=fun e=>by rw [e,Rat.mul_zero] at dd;exact absurd dd (by decide)
    refine ⟨1/d,[3,1,1],[1],c0,.inr rfl,.inl rfl,?_,fun x=>by rw [ef,qJ8,Rat.mul_comm];exact dd⟩
    refine tw.ext (qKf c0 q1) (qA0 fun x=>?_)
    rw [qA4,←h x,ef]
    grind
def mP(S:List Rat):List Rat:=qAd (qOj S)
theorem ev_mP(S:List Rat)(x:Rat):qAb (mP S) x=qIf S x:=by unfold mP;rw [qAp,qFs]
theorem tr_lin(s:Rat):Tr [-s,1]:=fun _=>by show (1:Rat)≠0;decide
theorem mP_cons(s:Rat)(S:List Rat):mP (s::S)=mulT [-s,1] (mP S):=qEg (qA0 fun x=>by rw [qAg,ev_mP,qFs,qD4];rfl)
theorem mP_tr:∀S:List Rat,Tr (mP S)∧mP S≠[]∧lead (mP S)=1∧(mP S).length=S.length+1
 |[]=>by
  have:mP []=[1]:=qAr (fun _=>by decide+kernel)
  rw [this]
  exact ⟨fun _=>by decide+kernel,by simp,rfl,rfl⟩
 |s::S=>by
  obtain ⟨h1,h2,h3,h4⟩:=mP_tr S
  have hl:=qE0 (tr_lin s) h1 (by simp) h2
  rw [mP_cons]
  refine ⟨qEm _ _,qMk (tr_lin s) h1 (by simp) h2,?_,?_⟩
  ·rw [hl.2,h3,Rat.mul_one];rfl
  ·rw [hl.1,h4];simp;omega
theorem mE_len{S e:List Rat}(he:isE e):(mulT (mP S) e).length≤S.length+3∧mulT (mP S) e≠[]∧Tr (mulT (mP S) e)∧lead (mulT (mP S) e)=1:=by
 obtain ⟨h1,h2,h3,h4⟩:=mP_tr S
 obtain ⟨k1,k2,k3,k4⟩:=he.tr
 have hl:=qE0 h1 k1 h2 k2
 refine ⟨by rw [hl.1,h4];omega,qMk h1 k1 h2 k2,qEm _ _,by rw [hl.2,h3,k3,Rat.one_mul]⟩
theorem ev_mE(S e:List Rat)(x:Rat):qAb (mulT (mP S) e) x=qIf S x*qAb e x:=by unfold mulT;rw [qAp,qAg,ev_mP]
theorem qGh{p:List Rat}(tp:Tr p)(p0:p≠[])(x:Rat):qAb p x=qAb (divP p (gcdP p (derP p))).1 x*qAb (gcdP p (derP p)) x:=by
 have td:Tr (derP p):=qAl _
 obtain ⟨g1,g2⟩:=qEo tp td
 obtain ⟨g3,g4⟩:=g2 (.inl p0)
 have hr:=rem_of_dvd tp g1 g3 (qG4 tp td).1
 have hs:=qE1 x (qBy tp g1 g3).2.2.2
 rw [qBh,qAg,show (divP p (gcdP p (derP p))).2=[] from hr] at hs
 have e0:qAb [] x=0:=rfl
 rw [e0,Rat.add_zero] at hs
 exact hs.symm
theorem qQb{p:List Rat}(tp:Tr p)(p0:p≠[]):Bez (divP p (gcdP p (derP p))).1 (derP (divP p (gcdP p (derP p))).1):=by
 have td:Tr (derP p):=qAl _
 obtain ⟨g1,g2⟩:=qEo tp td
 obtain ⟨g3,g4⟩:=g2 (.inl p0)
 exact sqf tp p0 (qBy tp g1 g3).1 (qGh tp p0)
theorem known{L q p:List Rat}(hq:isE q)(hp:p=mulT (mP L) q):∃e e':List Rat,isE e∧isE e'∧(divP p (gcdP p (derP p))).1=mulT (mP (ded L).1) e∧gcdP p (derP p)=mulT (mP (ded L).2) e':=by
 obtain ⟨k1,k2,k3,k4⟩:=mE_len (S:=L) hq
 rw [←hp] at k1 k2 k3 k4
 have ep:∀x,qAb p x=qIf L x*qAb q x:=fun x=>by rw [hp,ev_mE]
 have hQ:=qGh k3 k2
 obtain ⟨u,v,hb⟩:=qQb k3 k2
 have td:Tr (derP p):=qAl _
 obtain ⟨g1,g2⟩:=qEo k3 td
 obtain ⟨g3,g4⟩:=g2 (.inl k2)
 have tQ:=(qBy k3 g1 g3).1
 have keep:∀s∈(ded L).1,qAb (divP p (gcdP p (derP p))).1 s=0:=fun s hs=>root_keep k3 k2 hQ (by rw [ep,qKp ((ded_mem L s).1 hs),Rat.zero_mul])
 generalize gcdP p (derP p)=g at *
 generalize (divP p g).1=Q at *
 obtain ⟨w0,hw0⟩:=factor (qSh L) keep
 obtain ⟨w,hw,tw⟩:∃w:List Rat,(∀x,qAb Q x=qIf (ded L).1 x*qAb w x)∧Tr w:=⟨qAd w0,fun x=>by rw [qAp];exact hw0 x,qAl _⟩
 have hr:∀r∈(ded L).2,qAb w r≠0:=fun r hr e=>by
  have hrS:=ded_rest L r hr
  have d:dEv Q r=dEv (qOj (ded L).1) r*qAb w r+qAb (qOj (ded L).1) r*dEv w r:=by
   rw [←qDs]
   exact qIj (qA0 fun x=>by rw [qAg,qFs];exact hw x) r
  rw [e,qFs,qKp hrS,Rat.mul_zero,Rat.zero_mul,Rat.add_zero] at d
  have:=hb r
  rw [qCy,d,hw r,qKp hrS,Rat.zero_mul,Rat.mul_zero,Rat.mul_zero] at this
  exact absurd this (by decide+kernel)
 have hc:=qSo (a:=qOj (ded L).1) (b:=mulC w g) (c:=mulC (qOj (ded L).2) q) (prod_exists _) fun x=>by
  rw [qAg,qAg,qFs,qFs]
  have:=hQ x
  rw [ep x,hw x,ded_prod L x] at this
  grind
 obtain ⟨f,hf1,hf2⟩:=strip (R:=(ded L).2) (w:=w) (g:=g) (q:=q) hr fun x=>by
  have:=hc x
  rwa [qAg,qAg,qFs] at this
 obtain ⟨c,e,e',c0,he,he',ew,ef⟩:=E_split tw hq hf1
 obtain ⟨m1,m2,m3,m4⟩:=mE_len (S:=(ded L).2) he'
 have eg:smul c g=mulT (mP (ded L).2) e':=(qKf c0 g1).ext m3 (qA0 fun x=>by rw [qA4,ev_mE,hf2 x,←ef x];grind)
 have c1:c=1:=by
  have:=qNq c g
  rw [eg,m4,g4,Rat.mul_one] at this
  exact this.symm
 subst c1
 rw [qDk] at eg ew
 refine ⟨e,e',he,he',?_,eg⟩
 exact tQ.ext (mE_len he).2.2.1 (qA0 fun x=>by rw [hw x,ev_mE,ew])
def mid2(x:I2):Rat:=(x.1+x.2)/2
def hw(w:Rat):Nat->Rat
 |0=>w
 |k+1=>hw w k/2
theorem qR5(x:Rat):x/2*2=x:=qAm (by decide)
theorem mid_bd{x:I2}(h:x.1≤x.2):x.1≤mid2 x∧mid2 x≤x.2∧(x.1<x.2->x.1<mid2 x∧mid2 x<x.2):=by
 have e:=qR5 (x.1+x.2)
 unfold mid2
 generalize (x.1+x.2)/2=m at *
 refine ⟨?_,?_,fun hlt=>⟨?_,?_⟩⟩<;>grind
theorem least{P:Nat->Prop}:∀N:Nat,P N->∃k,k≤N∧P k∧∀j,j<k->¬P j
 |0,h=>⟨0,Nat.le_refl _,h,fun j hj=>absurd hj (Nat.not_lt_zero j)⟩
 |N+1,h=>by
  by_cases c:∃j,j≤N∧P j
  ·obtain ⟨j,hj,pj⟩:=c
   obtain ⟨k,hk,pk,hl⟩:=least j pj
   exact ⟨k,by omega,pk,hl⟩
  ·exact ⟨N+1,Nat.le_refl _,h,fun j hj pj=>c ⟨j,by omega,pj⟩⟩
termination_by N=>N
decreasing_by all_goals (first|omega|skip)
theorem qKz(w:Rat):∀k,hw w k*twoQ k=w
 |0=>by show w*twoQ 0=w;rw [show twoQ 0=1 from rfl,Rat.mul_one]
 |k+1=>by
  have e:twoQ (k+1)=twoQ k*2:=by
   rw [qHe,qHe,Nat.pow_succ,Rat.natCast_mul];rfl
  have ih:=qKz w k
  have e2:=qR5 (hw w k)
  rw [e]
  show hw w k/2*(twoQ k*2)=w
  generalize hw w k/2=d at *
  grind
theorem hw_add(w:Rat)(a:Nat):∀b,hw (hw w a) b=hw w (a+b)
 |0=>rfl
 |b+1=>by show hw (hw w a) b/2=hw w (a+b)/2;rw [hw_add w a b]
theorem hw_ok{w:Rat}{n:Nat}(h:okQ n w):∀k,okQ (n+3*k) (hw w k)
 |0=>h
 |k+1=>by
  have o2:okQ 3 (2:Rat):=⟨by show (qAe 2).length<3;rw [qCp (by decide) (by decide)];decide,by show (qAe 1).length<3;rw [limbs_one];decide⟩
  exact ((hw_ok h k).div o2 (by decide)).mono (by omega)
def Dy(D M j:Nat)(a:Rat):Prop:=∃A:Int,A.natAbs≤M*2^j∧a=Rat.divInt A ((D*2^j:Nat):Int)
theorem Dy.next{D M j:Nat}{a:Rat}(h:Dy D M j a):Dy D M (j+1) a:=by
 obtain ⟨A,h1,h2⟩:=h
 refine ⟨A*2,?_,?_⟩
 ·rw [Int.natAbs_mul,Nat.pow_succ,←Nat.mul_assoc]
  exact Nat.mul_le_mul_right 2 h1
 ·rw [h2,Nat.pow_succ,←Nat.mul_assoc,Int.natCast_mul]
  exact (Rat.divInt_mul_right (by decide)).symm
theorem Dy.mid{D M j:Nat}(D0:D≠0){a b:Rat}(h:Dy D M j a)(k:Dy D M j b):Dy D M (j+1) ((a+b)/2):=by
 obtain ⟨A,h1,h2⟩:=h
 obtain ⟨E,k1,k2⟩:=k
 have n0:((D*2^j:Nat):Int)≠0:=by
  have:=Nat.mul_pos (Nat.pos_of_ne_zero D0) (Nat.two_pow_pos j)
  omega
 refine ⟨A+E,?_,?_⟩
 ·have:=Int.natAbs_add_le A E
  rw [Nat.pow_succ,←Nat.mul_assoc]
  omega
 ·have e1:a+b=Rat.divInt (A+E) ((D*2^j:Nat):Int):=by
   rw [h2,k2,Rat.divInt_add_divInt _ _ n0 n0,←Int.add_mul,Rat.divInt_mul_right n0]
  rw [e1,show (2:Rat)=Rat.divInt 2 1 from rfl,qHp n0 (by decide) (by decide),Int.mul_one,Nat.pow_succ,←Nat.mul_assoc,Int.natCast_mul (D*2^j) 2]
  rfl
theorem Dy.ok{D M j:Nat}(D0:D≠0)(hD:D<4294967296*4294967296)(hM:M<4294967296*4294967296*4294967296){a:Rat}(h:Dy D M j a):okQ (j/32+5) a:=by
 obtain ⟨A,h1,h2⟩:=h
 have n0:((D*2^j:Nat):Int)≠0:=by
  have:=Nat.mul_pos (Nat.pos_of_ne_zero D0) (Nat.two_pow_pos j)
  omega
 obtain ⟨d1,d2⟩:=qSg A ((D*2^j:Nat):Int) n0
 rw [←h2] at d1 d2
 have pw:2^j<B^(j/32+1):=by
  have:B=2^32:=rfl
  rw [this,←Nat.pow_mul]
  exact Nat.pow_lt_pow_right (by decide) (by omega)
 have e4:B^(j/32+4)=4294967296*4294967296*4294967296*B^(j/32+1):=by
  rw [show j/32+4=3+(j/32+1) by omega,Nat.pow_add];rfl
 have b1:M*2^j<B^(j/32+4):=by
  rw [e4]
  exact Nat.mul_lt_mul_of_lt_of_le hM (Nat.le_of_lt pw) (Nat.lt_of_le_of_lt (Nat.zero_le _) pw)
 have b2:D*2^j<B^(j/32+4):=by
  rw [e4]
  exact Nat.mul_lt_mul_of_lt_of_le (Nat.lt_trans hD (by decide)) (Nat.le_of_lt pw) (Nat.lt_of_le_of_lt (Nat.zero_le _) pw)
 have l1:=qA3 (n:=a.num.natAbs) (k:=j/32+4) (by omega)
 have l2:=qA3 (n:=a.den) (k:=j/32+4) (by
  rw [Int.natAbs_natCast] at d2
  omega)
 exact ⟨by omega,by omega⟩
theorem Dy.start{a b:Rat}(ha:okQ 2 a)(hb:okQ 2 b):∃D M:Nat,D≠0∧D<4294967296*4294967296∧M<4294967296*4294967296*4294967296∧Dy D M 0 a∧Dy D M 0 b:=by
 have lt:∀n,(qAe n).length<2->n<4294967296:=fun n h=>by
  have h1:=qCh n
  have h2:B^(qAe n).length≤B^1:=Nat.pow_le_pow_right (by decide) (by omega)
  have h3:B^1=4294967296:=rfl
  rw [h3] at h2
  exact Nat.lt_of_lt_of_le h1 h2
 have a1:=lt _ ha.1
 have a2:=lt _ ha.2
 have b1:=lt _ hb.1
 have b2:=lt _ hb.2
 have ea:Rat.divInt a.num a.den=a:=Rat.num_divInt_den a
 have eb:Rat.divInt b.num b.den=b:=Rat.num_divInt_den b
 have da:=a.den_nz
 have db:=b.den_nz
 have m1:a.num.natAbs*b.den≤4294967295*4294967295:=Nat.mul_le_mul (by omega) (by omega)
 have m2:b.num.natAbs*a.den≤4294967295*4294967295:=Nat.mul_le_mul (by omega) (by omega)
 have m3:a.den*b.den≤4294967295*4294967295:=Nat.mul_le_mul (by omega) (by omega)
 refine ⟨a.den*b.den,a.num.natAbs*b.den+b.num.natAbs*a.den,Nat.mul_ne_zero da db,by omega,by omega,⟨a.num*b.den,?_,?_⟩,b.num*a.den,?_,?_⟩
 ·rw [Int.natAbs_mul,Int.natAbs_natCast,Nat.pow_zero];omega
 ·rw [Nat.pow_zero,Nat.mul_one,Int.natCast_mul,Rat.divInt_mul_right (by omega),ea]
 ·rw [Int.natAbs_mul,Int.natAbs_natCast,Nat.pow_zero];omega
 ·rw [Nat.pow_zero,Nat.mul_one,Nat.mul_comm,Int.natCast_mul,Rat.divInt_mul_right (by omega),eb]
theorem hullI_same{X:I2}(h:X.1≤X.2):hullI (qD1 X.1 X.2) (qD1 X.1 X.2)=X:=by
 rw [qGx h]
 show ((([X.2,X.1,X.2].foldl minQ X.1),([X.2,X.1,X.2].foldl maxQ X.1)):I2)=X
 simp only [List.foldl_cons,List.foldl_nil]
 have e1:minQ (minQ (minQ X.1 X.2) X.1) X.2=X.1:=by unfold minQ;grind
 have e2:maxQ (maxQ (maxQ X.1 X.2) X.1) X.2=X.2:=by unfold maxQ;grind
 rw [e1,e2]
theorem qQr(a b:Nat):twoQ (a+b)=twoQ a*twoQ b:=by
 rw [qHe,qHe,qHe,Nat.pow_add,Rat.natCast_mul]
theorem qJb{a b:Nat}(h:a≤b):twoQ a≤twoQ b:=by
 rw [qHe,qHe]
 exact Rat.natCast_le_natCast.2 (Nat.pow_le_pow_right (by decide) h)
theorem two_ge1(a:Nat):1≤twoQ a:=by
 have:=qJb (Nat.zero_le a)
 rwa [show twoQ 0=1 from rfl] at this
theorem qL2(n:Nat):0<hw 1 n:=by
 have h:=qKz 1 n
 have p:=qDj n
 refine Rat.not_le.1 fun hn=>?_
 have:=qCl hn (Rat.le_of_lt p)
 rw [h,Rat.zero_mul] at this
 exact absurd this (by decide+kernel)
theorem hw_le_of{x:Rat}{n:Nat}(h:1≤x*twoQ n):hw 1 n≤x:=by
 have p:=qDj n
 refine Rat.not_lt.1 fun hn=>?_
 have:=Rat.mul_lt_mul_of_pos_right hn p
 rw [qKz] at this
 grind
theorem ab_den(q:Rat):ab q*((q.den:Nat):Rat)=((q.num.natAbs:Nat):Rat):=by
 have hd:((q.den:Nat):Rat)≠0:=fun e=>by
  have e0:((q.den:Nat):Rat)=((0:Nat):Rat):=e
  exact q.den_nz (Rat.natCast_inj.1 e0)
 have e:q*((q.den:Nat):Rat)=(q.num:Rat):=by
  have h1:q=Rat.divInt q.num q.den:=(Rat.num_divInt_den q).symm
  have h2:q=(q.num:Rat)/(((q.den:Nat):Int):Rat):=by rw [←Rat.divInt_eq_div];exact h1
  rw [Rat.intCast_natCast] at h2
  have h3:=qAm (a:=(q.num:Rat)) hd
  rw [←h2] at h3
  exact h3
 have hn:(0:Rat)≤((q.den:Nat):Rat):=by
  have e0:((0:Nat):Rat)=0:=rfl
  rw [←e0]
  exact Rat.natCast_le_natCast.2 (Nat.zero_le _)
 have e2:ab q*((q.den:Nat):Rat)=ab (q.num:Rat):=by
  rw [←e,qEu]
  congr 1
  unfold ab
  rw [if_neg (by grind)]
 rw [e2,←Rat.intCast_natCast]
 unfold ab
 split
 ·rename_i hneg
  have:q.num<0:=by
   have e0:((0:Int):Rat)=0:=rfl
   rw [←e0] at hneg
   exact Rat.intCast_lt_intCast.1 hneg
  rw [←Rat.intCast_neg]
  congr 1
  omega
 ·rename_i hpos
  have:0≤q.num:=by
   have e0:((0:Int):Rat)=0:=rfl
   rw [←e0] at hpos
   refine Int.not_lt.1 fun h=>hpos (Rat.intCast_lt_intCast.2 h)
  congr 1
  omega
theorem len_two{n H:Nat}(h:(qAe n).length<H):n≤2^(32*H):=by
 have h1:n<B^(qAe n).length:=qCh n
 have h2:B^(qAe n).length≤B^H:=Nat.pow_le_pow_right (by decide) (by omega)
 have:B=2^32:=rfl
 rw [this,←Nat.pow_mul,←Nat.pow_mul] at h2
 rw [this,←Nat.pow_mul] at h1
 omega
theorem ok_up{q:Rat}{H:Nat}(h:okQ H q):ab q≤twoQ (32*H):=by
 have e:=ab_den q
 have d1:(1:Rat)≤((q.den:Nat):Rat):=by
  have e0:((1:Nat):Rat)=1:=rfl
  rw [←e0]
  exact Rat.natCast_le_natCast.2 q.den_pos
 have n1:((q.num.natAbs:Nat):Rat)≤twoQ (32*H):=by
  rw [qHe]
  exact Rat.natCast_le_natCast.2 (len_two h.1)
 have:=qAt (Rat.le_refl (a:=ab q)) d1 (by decide) (qAo q)
 rw [Rat.mul_one,e] at this
 exact Rat.le_trans this n1
theorem ok_low{q:Rat}{H:Nat}(h:okQ H q)(h0:q≠0):hw 1 (32*H)≤ab q:=by
 refine hw_le_of ?_
 have e:=ab_den q
 have n1:(1:Rat)≤((q.num.natAbs:Nat):Rat):=by
  have e0:((1:Nat):Rat)=1:=rfl
  rw [←e0]
  refine Rat.natCast_le_natCast.2 ?_
  have:q.num≠0:=fun e=>h0 (Rat.num_eq_zero.1 e)
  omega
 have d2:((q.den:Nat):Rat)≤twoQ (32*H):=by
  rw [qHe]
  exact Rat.natCast_le_natCast.2 (len_two h.2)
 have hn:(0:Rat)≤((q.den:Nat):Rat):=by
  have e0:((0:Nat):Rat)=0:=rfl
  rw [←e0]
  exact Rat.natCast_le_natCast.2 (Nat.zero_le _)
 have:=qAt (Rat.le_refl (a:=ab q)) d2 hn (qAo q)
 rw [e] at this
 exact Rat.le_trans n1 this
theorem ok_tail{H:Nat}{a:Rat}{p:List Rat}(h:∀i,okQ H (cf (a::p) i)):okQ H a∧∀i,okQ H (cf p i):=⟨h 0,fun i=>h (i+1)⟩
theorem ev_up{H:Nat}:∀{p:List Rat},(∀i,okQ H (cf p i))->∀x,ab x≤4096->ab (qAb p x)≤twoQ (32*H+13*p.length)
 |[],h,x,hx=>by
  have:=two_ge1 (32*H+13*0)
  have e:ab (qAb [] x)=0:=rfl
  rw [e]
  show 0≤twoQ (32*H+13*0)
  grind
 |a::p,h,x,hx=>by
  obtain ⟨h1,h2⟩:=ok_tail h
  have ih:=ev_up h2 x hx
  rw [qF8]
  have k1:=qSt a (x*qAb p x)
  rw [qEu] at k1
  have k2:=qAt hx ih (qAo _) (by decide)
  have k3:=ok_up h1
  have e1:twoQ (32*H+13*(a::p).length)=twoQ (32*H+13*p.length)*8192:=by
   rw [List.length_cons,show 32*H+13*(p.length+1)=32*H+13*p.length+13 by omega,qQr]
   rfl
  have e2:=qJb (show 32*H≤32*H+13*p.length by omega)
  have p0:=qDj (32*H+13*p.length)
  rw [e1]
  grind
theorem lp_up{H:Nat}:∀{p:List Rat},(∀i,okQ H (cf p i))->∀x y,ab x≤4096->ab y≤4096->ab (qAb p x-qAb p y)≤twoQ (32*H+14*p.length)*ab (x-y)
 |[],h,x,y,hx,hy=>by
  have:=two_ge1 (32*H+14*0)
  have e:ab (qAb [] x-qAb [] y)=0:=by show ab (0-0)=0;decide+kernel
  rw [e]
  have:=Rat.mul_nonneg (show 0≤twoQ (32*H+14*0) by grind) (qAo (x-y))
  exact this
 |a::p,h,x,y,hx,hy=>by
  obtain ⟨h1,h2⟩:=ok_tail h
  have ih:=lp_up h2 x y hx hy
  have M:=ev_up h2 y hy
  rw [qF8,qF8]
  have e:a+x*qAb p x-(a+y*qAb p y)=x*(qAb p x-qAb p y)+(x-y)*qAb p y:=by grind
  rw [e]
  have k1:=qSt (x*(qAb p x-qAb p y)) ((x-y)*qAb p y)
  rw [qEu,qEu] at k1
  have k2:=qAt hx ih (qAo _) (by decide)
  have k3:=qAt M (Rat.le_refl (a:=ab (x-y))) (qAo _) (Rat.le_of_lt (qDj _))
  have e1:twoQ (32*H+14*(a::p).length)=twoQ (32*H+14*p.length)*16384:=by
   rw [List.length_cons,show 32*H+14*(p.length+1)=32*H+14*p.length+14 by omega,qQr]
   rfl
  have e2:=qJb (show 32*H+13*p.length≤32*H+14*p.length by omega)
  have k4:=qCl e2 (qAo (x-y))
  rw [e1]
  have k5:=Rat.mul_nonneg (Rat.le_of_lt (qDj (32*H+14*p.length))) (qAo (x-y))
  grind
def FarB(E:Nat)(a b:List Rat):Prop:=∀x,ab x≤4096->hw 1 E≤ab (qAb a x)∨hw 1 E≤ab (qAb b x)
theorem qHl{a b:Nat}(h:a≤b):hw 1 b≤hw 1 a:=by
 refine hw_le_of ?_
 have e:=qKz 1 a
 have:=qAt (Rat.le_refl (a:=hw 1 a)) (qJb h) (Rat.le_of_lt (qDj a)) (Rat.le_of_lt (qL2 a))
 rw [e] at this
 exact this
theorem FarB.mono{E F:Nat}{a b:List Rat}(h:FarB E a b)(hE:E≤F):FarB F a b:=fun x hx=>(h x hx).imp (fun e=>Rat.le_trans (qHl hE) e) (fun e=>Rat.le_trans (qHl hE) e)
theorem qLm(a b:Nat):hw 1 (a+b)=hw 1 a*hw 1 b:=by
 have e1:=qKz 1 (a+b)
 rw [qQr] at e1
 have e2:=qKz 1 a
 have e3:=qKz 1 b
 have pa:=qDj a
 have pb:=qDj b
 have:hw 1 a*hw 1 b*(twoQ a*twoQ b)=1:=by
  have:hw 1 a*hw 1 b*(twoQ a*twoQ b)=(hw 1 a*twoQ a)*(hw 1 b*twoQ b):=by grind
  rw [this,e2,e3,Rat.one_mul]
 have pp:=Rat.mul_pos pa pb
 have e4:(hw 1 (a+b)-hw 1 a*hw 1 b)*(twoQ a*twoQ b)=0:=by grind
 have:=mul0 (a:=twoQ a*twoQ b) (b:=hw 1 (a+b)-hw 1 a*hw 1 b) (by rw [Rat.mul_comm];exact e4) (Rat.ne_of_gt pp)
 grind
theorem FarB.step{a b c q:List Rat}{E κ m Hq:Nat}{k:Rat}(h:FarB E b c)(he:∀x,qAb a x=qAb q x*qAb b x-k*qAb c x)(hk:hw 1 κ≤k)(hq:∀i,okQ Hq (cf q i))(hm:32*Hq+13*q.length+1≤m):FarB (E+κ+m) a b:=fun x hx=>by
 by_cases hb:hw 1 (E+κ+m)≤ab (qAb b x)
 ·exact .inr hb
 ·left
  have hc:hw 1 E≤ab (qAb c x):=(h x hx).resolve_left fun e=>hb (Rat.le_trans (qHl (by omega)) e)
  have e1:=he x
  have e2:k*qAb c x=qAb q x*qAb b x-qAb a x:=by grind
  have e3:=ab_sub (qAb q x*qAb b x) (qAb a x)
  have hk0:0<k:=by have:=qL2 κ;grind
  rw [←e2,qEu,qEu,show ab k=k by unfold ab;rw [if_neg (by grind)]] at e3
  have k1:=qAt hk hc (Rat.le_of_lt (qL2 E)) (Rat.le_of_lt hk0)
  have u1:=ev_up hq x hx
  have k2:=qAt u1 (show ab (qAb b x)≤hw 1 (E+κ+m) by grind) (qAo _) (Rat.le_of_lt (qDj _))
  -- a power of two times the bound is at most half of it
  have t1:hw 1 (E+κ+m)=hw 1 (κ+E)*hw 1 m:=by rw [←qLm];congr 1;omega
  have t2:twoQ (32*Hq+13*q.length)*2≤twoQ m:=by
   have:=qJb hm
   rw [qQr] at this
   exact this
  have t3:=qKz 1 m
  have p1:=qL2 m
  have p2:=qL2 (κ+E)
  have t4:twoQ (32*Hq+13*q.length)*hw 1 m*2≤1:=by
   have:=qCl t2 (Rat.le_of_lt p1)
   grind
  have t5:twoQ (32*Hq+13*q.length)*hw 1 (E+κ+m)*2≤hw 1 (κ+E):=by
   have:=qCl t4 (Rat.le_of_lt p2)
   rw [t1]
   grind
  have t6:hw 1 (E+κ+m)*2≤hw 1 (κ+E):=by
   have h2:hw 1 m*2≤1:=by
    have h3:(2:Rat)≤twoQ m:=by
     have h4:=qJb (show 1≤m by omega)
     rwa [show twoQ 1=2 from rfl] at h4
    have:=qCl h3 (Rat.le_of_lt p1)
    grind
   have:=qCl h2 (Rat.le_of_lt p2)
   rw [t1]
   grind
  rw [←qLm] at k1
  grind
theorem ways2{R:Rat->Rat->Prop}(tr:∀x y z,R x y->R y z->R x z){e:Rat}(he:0<e){lo hi:Rat}(hl:lo<hi)(h:∀x y,lo≤x->x<y->y≤hi->y-x≤e->R x y):R lo hi:=by
 have key:∀(N:Nat) (a:Rat),lo≤a->a<hi->hi-a≤(N:Rat)*e->R a hi:=by
  intro N
  induction N with
  |zero=>
   intro a h1 h2 hN
   have e0:((0:Nat):Rat)=0:=rfl
   rw [e0,Rat.zero_mul] at hN
   grind
  |succ N ih=>
   intro a h1 h2 hN
   by_cases hs:hi-a≤e
   ·exact h a hi h1 h2 Rat.le_refl hs
   ·refine tr a (a+e) hi (h a (a+e) h1 (by grind) (by grind) (by grind)) (ih (a+e) (by grind) (by grind) ?_)
    have e1:((N+1:Nat):Rat)=(N:Rat)+1:=by rw [Rat.natCast_add];rfl
    rw [e1] at hN
    grind
 obtain ⟨N,hN⟩:=qT6 ((hi-lo)/e)
 refine key N lo Rat.le_refl hl ?_
 have h3:=qCl hN (Rat.le_of_lt he)
 rwa [qAm (Rat.ne_of_gt he)] at h3
theorem qOc{u v e:Rat}(he:0<e)(hu:e≤ab u)(hd:ab (u-v)<e):(0<u∧0<v)∨(u<0∧v<0):=by
 have h:=qTk (u-v)
 unfold ab at hu
 split at hu
 ·right;constructor<;>grind
 ·left;constructor<;>grind
theorem one_root{ch:List Rat->List Rat}(hc:ChS ch){Q:List Rat}(tQ:Tr Q)(hb:Bez Q (derP Q)){n E H:Nat}(hn:Q.length<n)(hf:FarB E Q (derP Q))(h1:∀i,okQ H (cf Q i))(h2:∀i,okQ H (cf (derP Q) i))(hl:(derP Q).length≤Q.length){lo hi:Rat}(l32: -4096≤lo)(h32:hi≤4096)(hlt:lo<hi)(hs:hi-lo≤hw 1 (E+(32*H+14*Q.length)+2)):vrs ((qBf ch n Q (derP Q)).map qAb) lo-vrs ((qBf ch n Q (derP Q)).map qAb) hi≤1:=by
 have dom:∀z,lo≤z->z≤hi->ab z≤4096:=fun z a b=>qK9 (by grind) (by grind)
 obtain ⟨e,he,hv⟩:=qIn hc (X:=4096) (by decide) tQ hb hn
 obtain ⟨K,hK,ht⟩:=taylor 4096 (by decide) Q
 generalize vrs ((qBf ch n Q (derP Q)).map qAb)=V at *
 have pe:=qL2 E
 -- how far the values go
 have var:∀(p:List Rat),(∀i,okQ H (cf p i))->p.length≤Q.length->∀x y,lo≤x->x≤hi->lo≤y->y≤hi->ab (qAb p x-qAb p y)*4≤hw 1 E:=fun p hp hpl x y a b c d=>by
  have k:=lp_up hp x y (dom x a b) (dom y c d)
  have kd:ab (x-y)≤hi-lo:=qK9 (by grind) (by grind)
  have t:=qJb (show 32*H+14*p.length≤32*H+14*Q.length by omega)
  have k2:=qAt t (Rat.le_trans kd hs) (qAo _) (Rat.le_of_lt (qDj _))
  have e1:hw 1 (E+(32*H+14*Q.length)+2)=hw 1 E*hw 1 (32*H+14*Q.length)*hw 1 2:=by rw [qLm,qLm]
  have e2:=qKz 1 (32*H+14*Q.length)
  have e3:hw 1 2*4=1:=by decide+kernel
  rw [e1] at k2
  generalize hw 1 (32*H+14*Q.length)=u at *
  generalize twoQ (32*H+14*Q.length)=w at *
  generalize hw 1 2=v at *
  have e4:w*(hw 1 E*u*v)*4=hw 1 E:=by
   have:w*(hw 1 E*u*v)*4=hw 1 E*(u*w)*(v*4):=by grind
   rw [this,e2,e3,Rat.mul_one,Rat.mul_one]
  grind
 by_cases c:∃z,lo≤z∧z≤hi∧hw 1 E≤ab (qAb Q z)
 ·obtain ⟨z,z1,z2,z3⟩:=c
  have hz:V lo-V hi=0:=by
   refine ways2 (R:=fun x y=>V x-V y=0) (fun x y z a b=>by omega) he hlt fun x y a b c d=>?_
   rw [hv x y (dom x a (by grind)) (dom y (by grind) c) b d]
   have v1:=var Q h1 (Nat.le_refl _) z x z1 z2 a (by grind)
   have v2:=var Q h1 (Nat.le_refl _) z y z1 z2 (by grind) c
   have s1:=qOc (u:=qAb Q z) (v:=qAb Q x) pe z3 (by have:=qAo (qAb Q z-qAb Q x);grind)
   have s2:=qOc (u:=qAb Q z) (v:=qAb Q y) pe z3 (by have:=qAo (qAb Q z-qAb Q y);grind)
   rw [if_neg (by unfold qGp;grind)]
  omega
 ·have far:∀z,lo≤z->z≤hi->hw 1 E≤ab (dEv Q z):=fun z a b=>by
   rw [←qCy]
   exact (hf z (dom z a b)).resolve_left fun e=>c ⟨z,a,b,e⟩
  obtain ⟨u,pu,mu⟩:∃d,0<d∧d*(1+K)=hw 1 E/2:=⟨_,qDr (a:=hw 1 E/2) (b:=1+K) (by grind) (by grind)⟩
  obtain ⟨m1,m2⟩:=qRt (Rat.le_refl (a:=mn e u))
  have side:∀z,lo≤z->z≤hi->(0<dEv Q lo∧0<dEv Q z)∨(dEv Q lo<0∧dEv Q z<0):=fun z a b=>by
   have v1:=var (derP Q) h2 hl lo z Rat.le_refl (Rat.le_of_lt hlt) a b
   rw [qCy,qCy] at v1
   exact qOc pe (far lo Rat.le_refl (Rat.le_of_lt hlt)) (by have:=qAo (dEv Q lo-dEv Q z);grind)
  have near:∀x y,lo≤x->x<y->y≤hi->y-x≤mn e u->(0<dEv Q x->qAb Q x<qAb Q y)∧(dEv Q x<0->qAb Q y<qAb Q x):=fun x y a b c d=>by
   have T:=ht x y (dom x a (by grind)) (dom y (by grind) c)
   have hab:ab (y-x)=y-x:=by unfold ab;rw [if_neg (by grind)]
   rw [hab] at T
   have g:=qTk (qAb Q y-qAb Q x-(y-x)*dEv Q x)
   have f:=far x a (by grind)
   have t1:K*(y-x)<hw 1 E:=qKr hK pe (by grind) (Rat.le_trans d m2) (by grind)
   have t2:K*(y-x)*(y-x)<hw 1 E*(y-x):=Rat.mul_lt_mul_of_pos_right t1 (by grind)
   constructor
   ·intro hp
    have:hw 1 E≤dEv Q x:=by unfold ab at f;rw [if_neg (by grind)] at f;exact f
    have t3:=qCl this (show 0≤y-x by grind)
    grind
   ·intro hp
    have:hw 1 E≤ -(dEv Q x):=by unfold ab at f;rw [if_pos hp] at f;exact f
    have t3:=qCl this (show 0≤y-x by grind)
    grind
  rcases side lo Rat.le_refl (Rat.le_of_lt hlt) with ⟨up,_⟩|⟨dn,_⟩
  ·have:=ways2 (R:=fun x y=>qAb Q x<qAb Q y∧V x-V y=if qAb Q x<0∧0≤qAb Q y then 1 else 0) (fun x y z ⟨a1,a2⟩ ⟨b1,b2⟩=>⟨by grind,by
    by_cases c1:qAb Q x<0∧0≤qAb Q y
    ·rw [if_pos c1] at a2
     rw [if_neg (by grind)] at b2
     rw [if_pos (by grind)];omega
    ·rw [if_neg c1] at a2
     by_cases c2:qAb Q y<0∧0≤qAb Q z
     ·rw [if_pos c2] at b2
      rw [if_pos (by grind)];omega
     ·rw [if_neg c2] at b2
      rw [if_neg (by grind)];omega⟩) (qJ6 he pu) hlt fun x y a b c d=>by
     have hx:0<dEv Q x:=by
      rcases side x a (by grind) with ⟨_,h⟩|⟨h,_⟩
      ·exact h
      ·grind
     have hlt2:=(near x y a b c d).1 hx
     refine ⟨hlt2,?_⟩
     rw [hv x y (dom x a (by grind)) (dom y (by grind) c) b (Rat.le_trans d m1)]
     by_cases c1:qAb Q x<0∧0≤qAb Q y
     ·rw [if_pos c1,if_pos (.inl c1)]
     ·rw [if_neg c1,if_neg (by unfold qGp;grind)]
   have h3:=this.2
   split at h3<;>omega
  ·have:=ways2 (R:=fun x y=>qAb Q y<qAb Q x∧V x-V y=if 0<qAb Q x∧qAb Q y≤0 then 1 else 0) (fun x y z ⟨a1,a2⟩ ⟨b1,b2⟩=>⟨by grind,by
    by_cases c1:0<qAb Q x∧qAb Q y≤0
    ·rw [if_pos c1] at a2
     rw [if_neg (by grind)] at b2
     rw [if_pos (by grind)];omega
    ·rw [if_neg c1] at a2
     by_cases c2:0<qAb Q y∧qAb Q z≤0
     ·rw [if_pos c2] at b2
      rw [if_pos (by grind)];omega
     ·rw [if_neg c2] at b2
      rw [if_neg (by grind)];omega⟩) (qJ6 he pu) hlt fun x y a b c d=>by
     have hx:dEv Q x<0:=by
      rcases side x a (by grind) with ⟨h,_⟩|⟨_,h⟩
      ·grind
      ·exact h
     have hlt2:=(near x y a b c d).2 hx
     refine ⟨hlt2,?_⟩
     rw [hv x y (dom x a (by grind)) (dom y (by grind) c) b (Rat.le_trans d m1)]
     by_cases c1:0<qAb Q x∧qAb Q y≤0
     ·rw [if_pos c1,if_pos (.inr c1)]
     ·rw [if_neg c1,if_neg (by unfold qGp;grind)]
   have h3:=this.2
   split at h3<;>omega
def qBz(d k:Rat):Rat:=if d< -k then-k else if k<d then k else d
def hub:List Rat->Rat->Rat->Rat
 |[],_,_=>0
 |v::x,k,t=>qBz (v-t) k+hub x k t
theorem clamp_mono{a b k:Rat}(hk:0<k)(h:a≤b):qBz a k≤qBz b k:=by
 unfold qBz
 split<;>split<;>(try split)<;>(try split)<;>grind
theorem qJo{k:Rat}(hk:0<k){t u:Rat}(h:t≤u):∀x:List Rat,hub x k u≤hub x k t
 |[]=>Rat.le_refl
 |v::x=>by
  have:=qJo hk h x
  have c:=clamp_mono hk (show v-u≤v-t by grind)
  unfold hub
  grind
theorem qUm(k t:Rat):∀(x y:List Rat),hub (x++y) k t=hub x k t+hub y k t
 |[],y=>by show hub y k t=0+hub y k t;rw [Rat.zero_add]
 |v::x,y=>by
  have:=qUm k t x y
  show qBz (v-t) k+hub (x++y) k t=qBz (v-t) k+hub x k t+hub y k t
  rw [this];grind
theorem hub_low{k:Rat}(hk:0<k){t:Rat}:∀{x:List Rat},x≠[]->(∀v∈x,t<v)->0<hub x k t
 |[v],_,h=>by
  have:=h v List.mem_cons_self
  unfold hub hub qBz
  rw [if_neg (by grind)]
  split<;>grind
 |v::w::x,_,h=>by
  have ih:=hub_low hk (t:=t) (x:=w::x) (by simp) (fun u hu=>h u (List.mem_cons_of_mem _ hu))
  have:=h v List.mem_cons_self
  have c:0<qBz (v-t) k:=by
   unfold qBz
   rw [if_neg (by grind)]
   split<;>grind
  show 0<qBz (v-t) k+hub (w::x) k t
  grind
theorem hub_high{k:Rat}(hk:0<k){t:Rat}:∀{x:List Rat},x≠[]->(∀v∈x,v<t)->hub x k t<0
 |[v],_,h=>by
  have:=h v List.mem_cons_self
  unfold hub hub qBz
  split
  ·grind
  ·rw [if_neg (by grind)];grind
 |v::w::x,_,h=>by
  have ih:=hub_high hk (t:=t) (x:=w::x) (by simp) (fun u hu=>h u (List.mem_cons_of_mem _ hu))
  have:=h v List.mem_cons_self
  have c:qBz (v-t) k<0:=by
   unfold qBz
   split
   ·grind
   ·rw [if_neg (by grind)];grind
  show qBz (v-t) k+hub (w::x) k t<0
  grind
theorem hub_lin{k a b t:Rat}(hk:0<k)(h1:a≤t)(h2:t≤b):∀{x:List Rat},(∀v∈x,(v-k≤a∨b≤v-k)∧(v+k≤a∨b≤v+k))->(b-a)*hub x k t=(b-t)*hub x k a+(t-a)*hub x k b
 |[],_=>by unfold hub;grind
 |v::x,h=>by
  have ih:=hub_lin hk h1 h2 (x:=x) (fun u hu=>h u (List.mem_cons_of_mem _ hu))
  obtain ⟨c1,c2⟩:=h v List.mem_cons_self
  have key:(b-a)*qBz (v-t) k=(b-t)*qBz (v-a) k+(t-a)*qBz (v-b) k:=by
   by_cases e:a=b
   ·have:t=a:=by grind
    subst this
    subst e
    grind
   have hab:a<b:=by grind
   rcases c1 with d1|d1
   ·rcases c2 with d2|d2
    ·have e1:∀s,a≤s->qBz (v-s) k= -k:=fun s hs=>by
      unfold qBz
      split
      ·rfl
      ·rw [if_neg (by grind)];grind
     rw [e1 t h1,e1 a Rat.le_refl,e1 b (Rat.le_of_lt hab)];grind
    ·have e1:∀s,a≤s->s≤b->qBz (v-s) k=v-s:=fun s hs hs2=>by
      unfold qBz
      rw [if_neg (by grind),if_neg (by grind)]
     rw [e1 t h1 h2,e1 a Rat.le_refl (Rat.le_of_lt hab),e1 b (Rat.le_of_lt hab) Rat.le_refl];grind
   ·have e1:∀s,s≤b->qBz (v-s) k=k:=fun s hs=>by
     unfold qBz
     rw [if_neg (by grind)]
     split
     ·rfl
     ·grind
    rw [e1 t h2,e1 a (Rat.le_of_lt hab),e1 b Rat.le_refl];grind
  show (b-a)*(qBz (v-t) k+hub x k t)=(b-t)*(qBz (v-a) k+hub x k a)+(t-a)*(qBz (v-b) k+hub x k b)
  grind
structure HubSpec (x:List Rat) (k lo hi:Rat):Prop where
 le:lo≤hi
 below:∀t,t<lo->0<hub x k t
 zero:∀t,lo≤t->t≤hi->hub x k t=0
 above:∀t,hi<t->hub x k t<0
theorem HubSpec.unique{x:List Rat}{k a b c d:Rat}(h:HubSpec x k a b)(g:HubSpec x k c d):a=c∧b=d:=by
 have key:∀{a b c d:Rat},HubSpec x k a b->HubSpec x k c d->a≤c∧d≤b:=fun {a b c d} h g=>by
  constructor
  ·refine Rat.not_lt.1 fun e=>?_
   have h1:=g.zero c Rat.le_refl g.le
   have h2:=h.below c e
   grind
  ·refine Rat.not_lt.1 fun e=>?_
   have h1:=g.zero d g.le Rat.le_refl
   have h2:=h.above d e
   grind
 obtain ⟨a1,a2⟩:=key h g
 obtain ⟨b1,b2⟩:=key g h
 constructor<;>grind
theorem nbr{q:List Rat}(hs:q.Pairwise (·< ·)){i:Nat}(h:i+1<q.length){y:Rat}(hy:y∈q):y≤q[i]∨q[i+1]≤y:=by
 obtain ⟨j,hj,rfl⟩:=List.getElem_of_mem hy
 have p:=List.pairwise_iff_getElem.1 hs
 rcases Nat.lt_trichotomy j i with e|e|e
 ·exact .inl (Rat.le_of_lt (p j i hj (by omega) e))
 ·subst e;exact .inl Rat.le_refl
 ·rcases Nat.lt_trichotomy j (i+1) with e2|e2|e2
  ·omega
  ·subst e2;exact .inr Rat.le_refl
  ·exact .inr (Rat.le_of_lt (p (i+1) j h hj e2))
structure Brk (x:List Rat) (k:Rat) (q:List Rat):Prop where
 asc:q.Pairwise (·< ·)
 lo:∀v∈x,v-k∈q
 hi:∀v∈x,v+k∈q
theorem Brk.lin{x q:List Rat}{k:Rat}(hk:0<k)(h:Brk x k q){i:Nat}(hi:i+1<q.length){t:Rat}(h1:q[i]≤t)(h2:t≤q[i+1]):(q[i+1]-q[i])*hub x k t=(q[i+1]-t)*hub x k q[i]+(t-q[i])*hub x k q[i+1]:=
 hub_lin hk h1 h2 fun v hv=>⟨nbr h.asc hi (h.lo v hv),nbr h.asc hi (h.hi v hv)⟩
theorem qG7{a b:Rat}(ha:0<a)(h:0<a*b):0<b:=by
 rcases pos_cases h with ⟨_,p⟩|⟨p,_⟩
 ·exact p
 ·grind
theorem Brk.zeros{x q:List Rat}{k:Rat}(hk:0<k)(h:Brk x k q){f l:Nat}(f0:0<f)(hfl:f≤l)(hl:l+1<q.length)(zf:hub x k (q[f]'(by omega))=0)(zl:hub x k (q[l]'(by omega))=0)(pf:0<hub x k (q[f-1]'(by omega)))(nl:hub x k q[l+1]<0):HubSpec x k (q[f]'(by omega)) (q[l]'(by omega)):=by
 have p:=List.pairwise_iff_getElem.1 h.asc
 refine ⟨?_,fun t ht=>?_,fun t h1 h2=>?_,fun t ht=>?_⟩
 ·rcases Nat.lt_or_ge f l with e|e
  ·exact Rat.le_of_lt (p f l (by omega) (by omega) e)
  ·have:f=l:=by omega
   subst this;exact Rat.le_refl
 ·obtain ⟨g,rfl⟩:∃g,f=g+1:=⟨f-1,by omega⟩
  simp only [Nat.add_sub_cancel] at pf
  by_cases c:t≤q[g]'(by omega)
  ·have:=qJo hk c x;grind
  ·have e:=h.lin hk (i:=g) (by omega) (t:=t) (by grind) (Rat.le_of_lt ht)
   rw [zf,Rat.mul_zero,Rat.add_zero] at e
   have h3:=Rat.mul_pos (show 0<q[g+1]-t by grind) pf
   exact qG7 (a:=q[g+1]-q[g]) (by have:=p g (g+1) (by omega) (by omega) (by omega);grind) (by rw [e];exact h3)
 ·have a:=qJo hk h1 x
  have b:=qJo hk h2 x
  grind
 ·by_cases c:q[l+1]≤t
  ·have:=qJo hk c x;grind
  ·have e:=h.lin hk (i:=l) hl (t:=t) (Rat.le_of_lt ht) (by grind)
   rw [zl,Rat.mul_zero,Rat.zero_add] at e
   have h3:=Rat.mul_pos (show 0<t-q[l]'(by omega) by grind) (show 0< -hub x k q[l+1] by grind)
   have h4:=qG7 (a:=q[l+1]-q[l]'(by omega)) (b:= -hub x k t) (by have:=p l (l+1) (by omega) hl (by omega);grind) (by grind)
   grind
theorem Brk.between{x q:List Rat}{k:Rat}(hk:0<k)(h:Brk x k q){i:Nat}(hi:i+1<q.length)(p0:0<hub x k q[i])(n1:hub x k q[i+1]<0){t:Rat}(ht:(t-q[i])*(hub x k q[i]-hub x k q[i+1])=hub x k q[i]*(q[i+1]-q[i])):HubSpec x k t t:=by
 have p:=List.pairwise_iff_getElem.1 h.asc i (i+1) (by omega) hi (by omega)
 have lin:=fun s h1 h2=>h.lin hk hi (t:=s) h1 h2
 have hm:=fun {s u:Rat} (e:s≤u)=>qJo hk e x
 have mi:=fun {s:Rat}=> @hm s
 generalize ha:q[i]=a at *
 generalize hb:q[i+1]=b at *
 generalize hA:hub x k a=A at *
 generalize hB:hub x k b=B at *
 have hab:0<b-a:=by grind
 have hAB:0<A-B:=by grind
 have t1:a<t:=by
  have h1:=Rat.mul_pos p0 hab
  rw [←ht] at h1
  have:=qG7 hAB (by rw [Rat.mul_comm];exact h1)
  grind
 have t2:t<b:=by
  have h1:(b-t)*(A-B)=(b-a)*(-B):=by grind
  have h2:=Rat.mul_pos hab (show 0< -B by grind)
  rw [←h1] at h2
  have:=qG7 hAB (by rw [Rat.mul_comm];exact h2)
  grind
 -- the sum at a qGk between the ends, times their distance
 have val:∀s,a≤s->s≤b->(b-a)*hub x k s=(t-s)*(A-B):=fun s h1 h2=>by
  rw [lin s h1 h2]
  grind
 refine ⟨Rat.le_refl,fun s hs=>?_,fun s h1 h2=>?_,fun s hs=>?_⟩
 ·by_cases c:s≤a
  ·have:=hm c;grind
  ·have e:=val s (by grind) (by grind)
   exact qG7 hab (by rw [e];exact Rat.mul_pos (by grind) hAB)
 ·have:s=t:=by grind
  subst this
  have e:=val s (by grind) (by grind)
  rw [Rat.sub_self,Rat.zero_mul] at e
  exact mul0 e (Rat.ne_of_gt hab)
 ·by_cases c:b≤s
  ·have:=hm c;grind
  ·have e:=val s (by grind) (by grind)
   have h3:=Rat.mul_pos (show 0<s-t by grind) hAB
   have:=qG7 hab (b:= -hub x k s) (by grind)
   grind
def qDt:Rat->List Rat->List Rat
 |_,[]=>[]
 |a,b::l=>if b=a then qDt a l else b::qDt b l
def cmpL:List Rat->List Rat
 |[]=>[]
 |a::l=>a::qDt a l
theorem qMo:∀(l:List Rat) (a x:Rat),(x∈l->x=a∨x∈qDt a l)∧(x∈qDt a l->x∈l)
 |[],a,x=>by simp [qDt]
 |b::l,a,x=>by
  unfold qDt
  split
  ·rename_i e
   obtain ⟨h1,h2⟩:=qMo l a x
   refine ⟨fun h=>?_,fun h=>List.mem_cons_of_mem _ (h2 h)⟩
   rcases List.mem_cons.1 h with rfl|h
   ·exact .inl e
   ·exact h1 h
  ·obtain ⟨h1,h2⟩:=qMo l b x
   refine ⟨fun h=>?_,fun h=>?_⟩
   ·rcases List.mem_cons.1 h with rfl|h
    ·exact .inr List.mem_cons_self
    ·rcases h1 h with rfl|h
     ·exact .inr List.mem_cons_self
     ·exact .inr (List.mem_cons_of_mem _ h)
   ·rcases List.mem_cons.1 h with rfl|h
    ·exact List.mem_cons_self
    ·exact List.mem_cons_of_mem _ (h2 h)
theorem cmpL_mem{l:List Rat}{x:Rat}:x∈cmpL l↔x∈l:=by
 cases l with
 |nil=>simp [cmpL]
 |cons a l=>
  obtain ⟨h1,h2⟩:=qMo l a x
  unfold cmpL
  rw [List.mem_cons,List.mem_cons]
  exact ⟨fun h=>h.elim .inl (fun h=>.inr (h2 h)),fun h=>h.elim .inl h1⟩
theorem qMq:∀(l:List Rat) (a:Rat),(∀x∈l,a≤x)->l.Pairwise (·≤ ·)->(∀x∈qDt a l,a<x)∧(qDt a l).Pairwise (·< ·)
 |[],a,_,_=>by simp [qDt]
 |b::l,a,h,hp=>by
  obtain ⟨p1,p2⟩:=List.pairwise_cons.1 hp
  unfold qDt
  split
  ·exact qMq l a (fun x hx=>h x (List.mem_cons_of_mem _ hx)) p2
  ·rename_i e
   obtain ⟨i1,i2⟩:=qMq l b p1 p2
   have hb:=h b List.mem_cons_self
   refine ⟨fun x hx=>?_,List.pairwise_cons.2 ⟨i1,i2⟩⟩
   rcases List.mem_cons.1 hx with rfl|hx
   ·grind
   ·have:=i1 x hx;grind
theorem qN2{l:List Rat}(h:l.Pairwise (·≤ ·)):(cmpL l).Pairwise (·< ·):=by
 cases l with
 |nil=>exact List.Pairwise.nil
 |cons a l=>
  obtain ⟨p1,p2⟩:=List.pairwise_cons.1 h
  obtain ⟨i1,i2⟩:=qMq l a p1 p2
  exact List.pairwise_cons.2 ⟨i1,i2⟩
theorem qMp:∀(l:List Rat) (a:Rat),(qDt a l).length≤l.length
 |[],a=>Nat.le_refl _
 |b::l,a=>by
  unfold qDt
  split
  ·have:=qMp l a;simp;omega
  ·have:=qMp l b;simp;omega
theorem qIa(l:List Rat):(cmpL l).length≤l.length:=by
 cases l with
 |nil=>exact Nat.le_refl _
 |cons a l=>have:=qMp l a;simp [cmpL];omega
theorem qK4:∀(l:List Rat) (a b:Rat),qDt a (l++[b])=qDt a l++(if b=(a::l).getLastD 0 then [] else [b])
 |[],a,b=>by simp only [List.nil_append,qDt,List.getLastD_cons,List.getLastD_nil]
 |c::l,a,b=>by
  have e:(a::c::l).getLastD 0=(c::l).getLastD 0:=by simp [List.getLastD_cons]
  rw [e,List.cons_append]
  simp only [qDt]
  split
  ·rename_i h
   rw [qK4 l a b,h]
  ·rw [qK4 l c b,List.cons_append]
def qDq:List Rat->Rat->List Rat
 |[],_=>[]
 |v::x,r=>(v-r)::(v+r)::qDq x r
theorem qSc{r:Rat}:∀{x:List Rat} {v:Rat},v∈x->v-r∈qDq x r∧v+r∈qDq x r
 |u::x,v,h=>by
  rcases List.mem_cons.1 h with rfl|h
  ·exact ⟨List.mem_cons_self,List.mem_cons_of_mem _ List.mem_cons_self⟩
  ·obtain ⟨a,b⟩:=qSc (r:=r) h
   exact ⟨List.mem_cons_of_mem _ (List.mem_cons_of_mem _ a),List.mem_cons_of_mem _ (List.mem_cons_of_mem _ b)⟩
theorem endsF_inv{r:Rat}:∀{x:List Rat} {y:Rat},y∈qDq x r->∃v∈x,y=v-r∨y=v+r
 |u::x,y,h=>by
  unfold qDq at h
  rcases List.mem_cons.1 h with rfl|h
  ·exact ⟨u,List.mem_cons_self,.inl rfl⟩
  ·rcases List.mem_cons.1 h with rfl|h
   ·exact ⟨u,List.mem_cons_self,.inr rfl⟩
   ·obtain ⟨v,h1,h2⟩:=endsF_inv h
    exact ⟨v,List.mem_cons_of_mem _ h1,h2⟩
theorem qI8(r:Rat):∀x:List Rat,(qDq x r).length=2*x.length
 |[]=>rfl
 |v::x=>by have:=qI8 r x;simp [qDq];omega
theorem qUr(r v:Rat):∀x:List Rat,qDq (x++[v]) r=qDq x r++[v-r,v+r]
 |[]=>rfl
 |u::x=>by have:=qUr r v x;simp only [List.cons_append,qDq,this]
def qAc(x:List Rat)(k:Rat):List Rat:=cmpL (srt (qDq x k))
theorem endsQ_mem{x:List Rat}{k y:Rat}:y∈qAc x k↔y∈qDq x k:=by
 unfold qAc
 rw [cmpL_mem]
 exact ⟨fun h=>(qD3 _).subset h,fun h=>(qD3 _).symm.subset h⟩
theorem qBx(x:List Rat)(k:Rat):Brk x k (qAc x k):=⟨qN2 (qL8 _),fun v hv=>endsQ_mem.2 (qSc hv).1,fun v hv=>endsQ_mem.2 (qSc hv).2⟩
theorem qI7(x:List Rat)(k:Rat):(qAc x k).length≤2*x.length:=by
 have:=qIa (srt (qDq x k))
 rw [qE2,qI8] at this
 exact this
def hubV(x:List Rat)(k:Rat)(j:Nat):Rat:=hub x k ((qAc x k).getD j 0)
theorem qBe{q:List Rat}{j:Nat}(h:j<q.length):q.getD j 0=q[j]:=by rw [List.getD_eq_getElem?_getD,List.getElem?_eq_getElem h];rfl
theorem qU3{q:List Rat}(hs:q.Pairwise (·< ·)){i j:Nat}(hij:i≤j)(hj:j<q.length):q[i]'(by omega)≤q[j]:=by
 rcases Nat.lt_or_ge i j with e|e
 ·exact Rat.le_of_lt (List.pairwise_iff_getElem.1 hs i j (by omega) hj e)
 ·have:i=j:=by omega
  subst this;exact Rat.le_refl
theorem hubV_anti{x:List Rat}{k:Rat}(hk:0<k){i j:Nat}(hij:i≤j)(hj:j<(qAc x k).length):hubV x k j≤hubV x k i:=by
 unfold hubV
 rw [qBe hj,qBe (show i<_ by omega)]
 exact qJo hk (qU3 (qBx x k).asc hij hj) x
theorem qDw{x:List Rat}{k:Rat}(x0:x≠[]):0<(qAc x k).length:=by
 obtain ⟨v,hv⟩:=List.exists_mem_of_ne_nil x x0
 exact List.length_pos_of_mem ((qBx x k).lo v hv)
theorem hubV_first{x:List Rat}{k:Rat}(hk:0<k)(x0:x≠[]):0<hubV x k 0:=by
 have h0:=qDw (k:=k) x0
 unfold hubV
 rw [qBe h0]
 refine hub_low hk x0 fun v hv=>?_
 obtain ⟨j,hj,e⟩:=List.getElem_of_mem ((qBx x k).lo v hv)
 have:=qU3 (qBx x k).asc (Nat.zero_le j) hj
 grind
theorem hubV_last{x:List Rat}{k:Rat}(hk:0<k)(x0:x≠[]):hubV x k ((qAc x k).length-1)<0:=by
 have h0:=qDw (k:=k) x0
 unfold hubV
 rw [qBe (by omega)]
 refine hub_high hk x0 fun v hv=>?_
 obtain ⟨j,hj,e⟩:=List.getElem_of_mem ((qBx x k).hi v hv)
 have:=qU3 (qBx x k).asc (show j≤(qAc x k).length-1 by omega) (by omega)
 grind
structure HubZ (x:List Rat) (k:Rat) (f l:Nat):Prop where
 f0:0<f
 fl:f≤l
 ln:l+1<(qAc x k).length
 pos:∀j,j<f->0<hubV x k j
 zero:∀j,f≤j->j≤l->hubV x k j=0
 neg:∀j,l<j->j<(qAc x k).length->hubV x k j<0
structure HubN (x:List Rat) (k:Rat) (i:Nat):Prop where
 i0:0<i
 ln:i<(qAc x k).length
 pos:∀j,j<i->0<hubV x k j
 neg:∀j,i≤j->j<(qAc x k).length->hubV x k j<0
theorem hub_cases{x:List Rat}{k:Rat}(hk:0<k)(x0:x≠[]):(∃f l,HubZ x k f l)∨∃i,HubN x k i:=by
 have h0:=qDw (k:=k) x0
 have hf:=hubV_first hk x0
 have hl:=hubV_last hk x0
 obtain ⟨f,f1,f2,f3⟩:=least (P:=fun j=>¬0<hubV x k j) ((qAc x k).length-1) (by grind)
 obtain ⟨g,g1,g2,g3⟩:=least (P:=fun j=>hubV x k j<0) ((qAc x k).length-1) hl
 have fp:0<f:=Nat.pos_of_ne_zero fun e=>by subst e;exact f2 hf
 have hfg:f≤g:=Nat.le_of_not_lt fun e=>by have:=f3 g e;grind
 have pos:∀j,j<f->0<hubV x k j:=fun j hj=>Classical.byContradiction fun e=>f3 j hj e
 have neg:∀j,g≤j->j<(qAc x k).length->hubV x k j<0:=fun j h1 h2=>by have:=hubV_anti hk h1 h2;grind
 by_cases e:f=g
 ·subst e
  exact .inr ⟨f,fp,by omega,pos,neg⟩
 ·refine .inl ⟨f,g-1,fp,by omega,by omega,pos,fun j h1 h2=>?_,fun j h1 h2=>neg j (by omega) h2⟩
  have a:=hubV_anti hk h1 (show j<(qAc x k).length by omega)
  have b:=g3 j (by omega)
  grind
theorem HubZ.spec{x:List Rat}{k:Rat}(hk:0<k){f l:Nat}(h:HubZ x k f l):HubSpec x k ((qAc x k).getD f 0) ((qAc x k).getD l 0):=by
 have e:∀j,j<(qAc x k).length->hubV x k j=hub x k ((qAc x k).getD j 0):=fun j hj=>rfl
 have hfl:=h.fl
 have hln:=h.ln
 have hf0:=h.f0
 have a1:=h.zero f (Nat.le_refl _) h.fl
 have a2:=h.zero l h.fl (Nat.le_refl _)
 have a3:=h.pos (f-1) (by omega)
 have a4:=h.neg (l+1) (by omega) h.ln
 unfold hubV at a1 a2 a3 a4
 rw [qBe (by omega)] at a1 a2 a3 a4
 rw [qBe (by omega),qBe (by omega)]
 exact (qBx x k).zeros hk h.f0 h.fl h.ln a1 a2 a3 a4
theorem HubN.spec{x:List Rat}{k:Rat}(hk:0<k){i:Nat}(h:HubN x k i){t:Rat}(ht:(t-(qAc x k).getD (i-1) 0)*(hubV x k (i-1)-hubV x k i)=hubV x k (i-1)*((qAc x k).getD i 0-(qAc x k).getD (i-1) 0)):HubSpec x k t t:=by
 obtain ⟨j,rfl⟩:∃j,i=j+1:=⟨i-1,by have:=h.i0;omega⟩
 have hln:=h.ln
 have a1:=h.pos j (by omega)
 have a2:=h.neg (j+1) (Nat.le_refl _) h.ln
 unfold hubV at a1 a2 ht
 rw [Nat.add_sub_cancel,qBe (show j<_ by omega),qBe hln] at ht
 rw [qBe (by omega)] at a1 a2
 exact (qBx x k).between hk hln a1 a2 ht
theorem HubSpec.between{x:List Rat}{k lo hi m M:Rat}(hk:0<k)(x0:x≠[])(h:HubSpec x k lo hi)(h1:∀v∈x,m≤v)(h2:∀v∈x,v≤M):m≤lo∧hi≤M:=by
 constructor
 ·refine Rat.not_lt.1 fun e=>?_
  have a:=hub_low hk x0 (t:=lo) fun v hv=>by have:=h1 v hv;grind
  have b:=h.zero lo Rat.le_refl h.le
  grind
 ·refine Rat.not_lt.1 fun e=>?_
  have a:=hub_high hk x0 (t:=hi) fun v hv=>by have:=h2 v hv;grind
  have b:=h.zero hi h.le Rat.le_refl
  grind
def sumR:List Rat->Rat
 |[]=>0
 |v::x=>v+sumR x
theorem hub_near{k t:Rat}:∀{x:List Rat},(∀v∈x, -k≤v-t∧v-t≤k)->hub x k t=sumR x-((x.length:Nat):Rat)*t
 |[],_=>by show (0:Rat)=0-((0:Nat):Rat)*t;have:((0:Nat):Rat)=0:=rfl;rw [this];grind
 |v::x,h=>by
  have ih:=hub_near (x:=x) fun u hu=>h u (List.mem_cons_of_mem _ hu)
  obtain ⟨a,b⟩:=h v List.mem_cons_self
  have c:qBz (v-t) k=v-t:=by
   unfold qBz
   rw [if_neg (by grind),if_neg (by grind)]
  have e:(((v::x).length:Nat):Rat)=((x.length:Nat):Rat)+1:=by rw [List.length_cons,Rat.natCast_add];rfl
  show qBz (v-t) k+hub x k t=v+sumR x-_
  rw [c,ih,e];grind
theorem HubSpec.mean{x:List Rat}{k lo hi m M mu:Rat}(x0:x≠[])(h:HubSpec x k lo hi)(h1:∀v∈x,m≤v)(h2:∀v∈x,v≤M)(hmM:m≤M)(hk:M-m<k)(hmu:mu*((x.length:Nat):Rat)=sumR x):lo=mu∧hi=mu:=by
 obtain ⟨b1,b2⟩:=h.between (by grind) x0 h1 h2
 have hn:(0:Rat)<((x.length:Nat):Rat):=by
  have e0:((0:Nat):Rat)=0:=rfl
  rw [←e0]
  exact Rat.natCast_lt_natCast.2 (List.length_pos_iff.2 x0)
 have key:∀t,m≤t->t≤M->hub x k t=0->t=mu:=fun t a b e=>by
  rw [hub_near fun v hv=>by have:=h1 v hv;have:=h2 v hv;constructor<;>grind,←hmu] at e
  have:(mu-t)*((x.length:Nat):Rat)=0:=by grind
  rw [Rat.mul_comm] at this
  have:=mul0 this (Rat.ne_of_gt hn)
  grind
 have hle:=h.le
 exact ⟨key lo b1 (by grind) (h.zero lo Rat.le_refl h.le),key hi (by grind) b2 (h.zero hi h.le Rat.le_refl)⟩
end Go.Vw
set_option linter.unusedSectionVars false
namespace Go.Vw
open Go.RowKit
def qSk{α:Type}(l:List α)(o n:Nat)(l2:List α):List α:=l.take o++(l2.take n++l.drop (o+min n l2.length))
theorem copyL_len{α:Type}{l l2:List α}{o n:Nat}(h:o+n≤l.length):(qSk l o n l2).length=l.length:=by
 unfold qSk;simp;omega
theorem copyL_get{α:Type}{l l2:List α}{o n:Nat}(h:o+n≤l.length)(j:Nat):(qSk l o n l2)[j]? =if o≤j∧j<o+min n l2.length then l2[j-o]? else l[j]? :=by
 unfold qSk
 have hA:(l.take o).length=o:=by simp;omega
 have hB:(l2.take n).length=min n l2.length:=by simp
 by_cases h1:j<o
 ·rw [List.getElem?_append_left (by omega),List.getElem?_take,if_pos h1,if_neg (by omega)]
 ·rw [List.getElem?_append_right (by omega),hA]
  by_cases h2:j-o<min n l2.length
  ·rw [List.getElem?_append_left (by omega),List.getElem?_take,if_pos (by omega),if_pos (by omega)]
  ·rw [List.getElem?_append_right (by omega),hB,List.getElem?_drop,if_neg (by omega)]
   congr 1;omega
section
variable {X:Ctx} {T:TypeId->Option TyD} (hT:qFz X.P T) {all:Array Oper} {s:St} {x y:Operand} {t ty e:TypeId} {pos:String} {after:Array Edge} {g:Option (Nat×Bool)} {d:Option Tmp} {td ed:TyD} {k o n:Nat} {α:Type} {en:α->List D} {z:α} {l l2:List α}
 (hg:gd all s ⟨d,.call ⟨.builtin .copy, #[x,y], #[t,t]⟩,ty,pos,after,g⟩=some true) (hd:qB5 X.N d=true) (ht:T t=some td) (hds:td.desc= .slice e) (he:T e=some ed)
include hT hg hd ht hds he
end
section
variable {X:Ctx} {all:Array Oper} {o:Oper} {rest:List Oper} {Q:Exit->St->Prop} {s:St} {td ed:TyD} {α:Type} {en:α->List D} {z:α} {l l2:List α}
end
section
variable {ex:Bool} {X:Ctx} {all:Array Oper} {o:Oper} {pre rest:List Oper} {Q:Exit->St->Prop} {s:St} {td ed:TyD} {α:Type} {en:α->List D} {z:α} {l:List α}
end
def Conv(X:Ctx)(s s':St):Prop:=∀io F a w,SR X io F s a w->∃io' F',SR X io' F' s' a w
section
variable {X:Ctx} {s s' s'':St}
theorem Conv.refl:Conv X s s:=fun io F _ _ hs=>⟨io,F,hs⟩
theorem Conv.trans(h:Conv X s s')(k:Conv X s' s''):Conv X s s'':=fun io F a w hs=>by
 obtain ⟨io',F',hs'⟩:=h io F a w hs
 exact k io' F' a w hs'
theorem Conv.cast(t:Nat){x:D}(y:D)(ht:s.tmps t= .d x)(hle:LeD x y):Conv X s (s.put (some t) (.d y)):=fun io F a w hs=>by
 refine ⟨io,F,hs.kept,fun u=>?_,hs.nt,hs.df,hs.bl,hs.inj,hs.ff,hs.f0,hs.st⟩
 rw [qJg]
 simp only [St.put]
 cases hb:Nat.beq u t with
 |true=>
  have:=Nat.eq_of_beq_eq_true hb
  subst this
  have hv:=hs.tm u
  rw [ht] at hv
  simp only [cond_true,VR] at hv ⊢
  exact hle F w _ hv
 |false=>simpa using hs.tm u
theorem Conv.frz(k:Nat){b:Blk}(hk:s.blk k=some b):Conv X s (s.sub k (some b)):=fun io F a w hs=>by
 obtain ⟨F',hs',_⟩:=hs.freeze k hk
 exact ⟨io,F',hs'⟩
end
theorem qQy{P:Program}{ev:Operand->Value}{dst:Option Tmp}{y:Operand}{t ty:TypeId}{pos:String}{after:Array Edge}{g:Option (Nat×Bool)}{w w':World}{v:Value}(hv:(Builtin.clear_ #[t] ty #[ev y]).run P w= .ok v w'):(execOp ev ⟨dst,.call ⟨.builtin .clear, #[y], #[t]⟩,ty,pos,after,g⟩).run P w= .ok (.value v) w':=by
 simp [execOp,resolve,invoke,builtin,hv]
section
variable {X:Ctx} {T:TypeId->Option TyD} (hT:qFz X.P T) {all:Array Oper} {s:St} {x:Operand} {t ty e:TypeId} {pos:String} {after:Array Edge} {g:Option (Nat×Bool)} {d:Option Tmp} {td ed:TyD} {k o n:Nat} {α:Type} {en:α->List D} {z:α} {l:List α}
 (hg:gd all s ⟨d,.call ⟨.builtin .clear, #[x], #[t]⟩,ty,pos,after,g⟩=some true) (hd:qB5 X.N d=true) (ht:T t=some td) (hds:td.desc= .slice e) (he:T e=some ed)
include hT hg hd ht hds he
theorem e_clear(hx:s.opd x= .own k o n e ed.size)(hk:s.blk k=some (.data e ed.size en z l))(hn:o+n≤l.length)(hzo:qF0 ed=true)(le:LeL (D.ofV ed.zero).cells (en z)):
    E1 X all s ⟨d,.call ⟨.builtin .clear, #[x], #[t]⟩,ty,pos,after,g⟩ ((s.withBlk k (.data e ed.size en z (qSk l o n (List.replicate n z)))).put d (.d .undef)):=by
  intro io F a w hs K Q hQ
  have hw:=qC9 (fun t _=>hs.tm t) hg
  obtain ⟨i,hi,his,hib,hiz⟩:=(hT _ _ he).inf
  obtain ⟨z1,z2,z3,z4⟩:=qGf (F:=F) (w:=w) hzo
  have hund:=(hT _ _ ht).und
  rw [hds] at hund
  have hv:=hs.opd x
  rw [hx] at hv
  have hbr:=hs.bl k _ hk
  simp only [BR] at hbr
  have lrep:(List.replicate n z).length=n:=List.length_replicate
  have zero:n=0->(∃p c,a.eval x= .slice p 0 c)->opWp X.P all ⟨d,.call ⟨.builtin .clear, #[x], #[t]⟩,ty,pos,after,g⟩ a w K Q:=fun h0 ⟨p,c,e1⟩=>by
    have hself:qSk l o n (List.replicate n z)=l:=by
      refine List.ext_getElem? fun j=>?_
      rw [copyL_get hn,if_neg (by omega)]
    have hst:s.withBlk k (.data e ed.size en z (qSk l o n (List.replicate n z)))=s:=by
      rw [hself]
      refine St.eta (funext fun t=>rfl) (funext fun j=>?_) rfl
      by_cases e':j=k
      · subst e';rw [qAn,hk]
      · rw [qCe e']
    have hrun:(Builtin.clear_ #[t] ty #[a.eval x]).run X.P w= .ok (.tuple #[]) w:=by
      rw [e1]
      cases p<;>simp [Builtin.clear_,run_underlying hund]
    refine qCu hw (qQy hrun) (hQ io F _ _ ?_)
    rw [hst]
    exact hs.put (qCb hd) (VR.undef _)
  simp only [VR] at hv
  rcases hv with ⟨_,e1,h0,_⟩|⟨b,cap,arr,hio,e1,hcap,hcm,hh,hsz,hln⟩
  · exact zero h0 ⟨_,_,e1⟩
  · by_cases hm0:n=0
    · subst hm0;exact zero rfl ⟨_,_,e1⟩
    · rcases hbr with ⟨g,_⟩|⟨b',arr',g1,hF,hA,g4,hr⟩
      · rw [g] at hio;cases hio
      · rw [hio] at g1;cases g1
        rw [hh] at g4;cases g4
        have hlra:=qNn z1 z2 z3 z4 le n n (Nat.le_refl _)
        obtain ⟨news,n1,n2,n3,n4⟩:=qJk (List.replicate n z) 0 hlra
        rw [lrep] at n1
        have hflat:news=(List.replicate n ed.zero.cells.toList).flatten:=by
          refine List.ext_getElem? fun j=>?_
          by_cases hj:j<news.length
          · have:=n2 j hj
            rw [←this,Nat.zero_add,List.getElem?_toArray]
          · have hlen:(List.replicate n ed.zero.cells.toList).flatten.length=n*ed.size:=by simp [z1]
            rw [List.getElem?_eq_none (by omega),List.getElem?_eq_none (by omega)]
        have hfit:o*ed.size+news.length≤arr.size:=by
          rw [hsz,n1,Nat.add_mul]
          have:n*ed.size≤cap*ed.size:=Nat.mul_le_mul_right _ (by omega)
          omega
        have hst:=run_storeCells_at X.P b (o*ed.size) e news 0 arr w hh (by simpa using hfit) n4
        simp only [Nat.add_zero] at hst
        have hrow:(Builtin.zeroCells ed.zero.cells n).toList=news:=by
          have:=qOi ed.zero.cells (by omega) n
          unfold Builtin.zeroCells
          rw [this,hflat]
        have hrun:(Builtin.clear_ #[t] ty #[a.eval x]).run X.P w= .ok (.tuple #[]) (w.setRow b (qLw arr (o*ed.size) news)):=by
          rw [e1]
          have e3:(arr.toList.take (o*ed.size)++news++arr.toList.drop (o*ed.size+news.length)).toArray=qLw arr (o*ed.size) news:=by unfold qLw;rw [List.append_assoc]
          rw [e3] at hst
          obtain ⟨n',rfl⟩:∃n',n=n'+1:=⟨n-1,by omega⟩
          simp [Builtin.clear_,run_underlying hund,zeroValue,typeInfo,hi,hiz,hrow,hst]
        refine qCu hw (qQy hrun) (hQ io F _ _ (SR.put (hs.write (by rw [hk];simp) hio hF hA hh (qMh hfit) (nb:=.data e ed.size en z (qSk l o n (List.replicate n z))) (by rw [qFm hk];simp [Blk.ln,copyL_len hn]) (.inl ⟨_,_,en,z,_,rfl,fun j c' hj=>?_⟩)) (qCb hd) (VR.undef _)))
        rw [Nat.zero_add]
        rw [copyL_get hn,lrep,Nat.min_self] at hj
        split at hj
        · rename_i hc
          obtain ⟨q1,q2⟩:=n3 (j-o) c' hj
          refine ⟨q1,DRA.congr (fun i' hi'=>?_) q2⟩
          have h1:(j-o)*ed.size+o*ed.size=j*ed.size:=by rw [←Nat.add_mul];congr 1;omega
          have h2:(j-o+1)*ed.size≤n*ed.size:=Nat.mul_le_mul_right _ (by omega)
          rw [Nat.add_mul] at h2
          rw [qIy hfit,if_pos (by omega)]
          congr 1;omega
        · rename_i hc
          obtain ⟨q1,q2⟩:=hr j c' hj
          refine ⟨q1,DRA.congr (fun i' hi'=>?_) q2⟩
          rw [Nat.zero_add,qIy hfit,if_neg]
          intro hcc
          by_cases hjo:j<o
          · have:(j+1)*ed.size≤o*ed.size:=Nat.mul_le_mul_right _ hjo
            rw [Nat.add_mul] at this;omega
          · have:(o+n)*ed.size≤j*ed.size:=Nat.mul_le_mul_right _ (by omega)
            rw [Nat.add_mul] at this;omega
end
section
variable {X:Ctx} {all:Array Oper} {o:Oper} {rest:List Oper} {Q:Exit->St->Prop} {s:St} {td ed:TyD} {α:Type} {en:α->List D} {z:α} {l:List α}
theorem stepClear{d:Option Tmp}{t:TypeId}{c:Call}{x:Operand}{e:TypeId}{k i n:Nat}(hop:o.op= .call c)(hc:c=⟨.builtin .clear, #[x], #[t]⟩)(hdst:o.dst=d)(hg:gd all s o=some true)(hd:qB5 X.N d=true)(ht:X.T t=some td)(hds:td.desc= .slice e)(he:X.T e=some ed)(hx:s.opd x= .own k i n e ed.size)(hk:s.blk k=some (.data e ed.size en z l))(hz:qF0 ed=true)(le:LeL (D.ofV ed.zero).cells (en z))(hn:i+n≤l.length)(r:awpL X all rest Q ((s.withBlk k (.data e ed.size en z (qSk l i n (List.replicate n z)))).put d (.d .undef))):awpL X all (o::rest) Q s:=by
 obtain ⟨dst,op,ty,pos,after,g⟩:=o
 cases hop;cases hdst;subst hc
 exact qEf (e_clear X.ok hg hd ht hds he hx hk hn hz le) r
end
end Go.Vw
set_option maxHeartbeats 8000000
namespace Go.Proofs.YtejigedigmagdaaGreat
open Go.Vw
attribute [local irreducible] awp awpL awpR
theorem qUy(l:List Rat)(h:l.length<2):cmpL l=l:=by
 match l,h with
 |[],_=>rfl
 |[a],_=>rfl
theorem cmpL_snoc{l:List Rat}(h:l≠[])(b:Rat):cmpL (l++[b])=cmpL l++(if b=l.getLastD 0 then [] else [b]):=by
 cases l with
 |nil=>exact absurd rfl h
 |cons a l=>
  show a::qDt a (l++[b])=a::qDt a l++_
  rw [qK4];rfl
theorem qSn{l:List Rat}{p:Nat}(h0:0<p)(hp:p<l.length):cmpL (l.take (p+1))=cmpL (l.take p)++(if l.getD p 0=l.getD (p-1) 0 then [] else [l.getD p 0]):=by
 have e:l.take (p+1)=l.take p++[l.getD p 0]:=by
  rw [List.take_add_one,List.getD_eq_getElem?_getD,List.getElem?_eq_getElem hp];rfl
 have hne:l.take p≠[]:=fun e=>by
  have:=congrArg List.length e
  rw [List.length_take,List.length_nil] at this
  omega
 have hl:(l.take p).getLastD 0=l.getD (p-1) 0:=by
  rw [List.getLastD_eq_getLast?,List.getLast?_eq_getElem?,List.length_take,List.getElem?_take,if_pos (by omega),show min p l.length-1=p-1 by omega]
  rw [List.getD_eq_getElem?_getD]
 rw [e,cmpL_snoc hne,hl]
theorem asc_eq(x y:Rat)(hx:okQ 100000 x)(hy:okQ 100000 y):Ret Tryz.prog 133 [qD x,qD y] (·= .bool (decide (x=y))):=by
 have cm:=qBk x y (hx.mono (by decide)) (hy.mono (by decide))
 have e:(cmpQ x y=0)↔x=y:=by
  unfold cmpQ
  constructor
  ·intro h
   split at h
   ·cases h
   ·split at h
    ·cases h
    ·grind
  ·intro h
   rw [h,if_neg Rat.lt_irrefl,if_neg Rat.lt_irrefl]
 by_cases h:x=y
 ·rw [e.2 h] at cm
  rw [decide_eq_true h]
  clear e
  refine qAa tab Tryz.func133 rfl rfl (lblz rfl) (fun w0 F0=>?_)
  repeat' (first|refine wG ?_|refine wC cm ?_|refine wS ?_ ?_<;>intro _|refine finG ?_)
  rfl
 ·have h2:cmpQ x y≠0:=fun k=>h (e.1 k)
  rw [decide_eq_false h]
  generalize cmpQ x y=c at *
  clear e
  refine qAa tab Tryz.func133 rfl rfl (lblz rfl) (fun w0 F0=>?_)
  repeat' (first|refine wG ?_|refine wC cm ?_|refine wS ?_ ?_<;>intro _|refine finG ?_)
  simp [h2]
theorem compact_B(l:List Rat)(hl:l.length≤1000)(ho:∀x∈l,okQ 100000 x):RetB Tryz.prog 131 [qO l.length,.d (.fn 133 [])] (qAh [(500,qB l)]) (qO (cmpL l).length) (qAh [(500,qB (cmpL l++List.replicate (l.length-(cmpL l).length) 0))]):=by
 have hc:=qIa l
 have og:∀i,okQ 100000 (l.getD i 0):=fun i=>qCv ho (by decide) i
 refine qBa tab [500] Tryz.func131 rfl rfl rfl (lblz rfl) rfl ⟨by show l.length≤(cmpL l++List.replicate (l.length-(cmpL l).length) 0).length;simp;omega,trivial⟩ (fun w0 F0 A io0=>?_)
 by_cases h2:l.length<2
 ·have e:=qUy l h2
  rw [e,Nat.sub_self]
  clear hc og ho
  repeat' (first|refine wG ?_|refine rg 6 10 ?_|refine rg 11 10 ?_|refine wS ?_ ?_<;>intro _|refine wB ?_ ?_)
  all_goals first|exact leVT|exact ⟨qBr (by simp),trivial⟩
 ·repeat' (first|refine wG ?_|refine rg 6 10 ?_|refine rg 11 10 ?_|refine wS ?_ ?_<;>intro _|refine wB ?_ ?_)
  refine qAi (fun (k:Nat)=>([(0,qO l.length),(1,.d (.fn 133 [])),(5,.d (.int .i64 k))],[(500,qB l)])) (fun k=>1≤k∧k≤l.length∧cmpL (l.take k)=l.take k) (fun k=>l.length-k) 1 ⟨Nat.le_refl _,by omega,qUy _ (by rw [List.length_take];omega)⟩ ⟨rfl,rfl,rfl,rfl⟩ ⟨rfl,trivial⟩ (fun k hk=>?_)
  obtain ⟨k1,k2,k3⟩:=hk
  by_cases h3:k<l.length
  ·have st:=qSn (l:=l) k1 h3
   have e1:((k:Int)-1).toNat=k-1:=by omega
   have cq:=asc_eq (l.getD k 0) (l.getD ((k:Int)-1).toNat 0) (og _) (og _)
   rw [e1] at cq
   by_cases h4:l.getD k 0=l.getD (k-1) 0
   ·rw [decide_eq_true h4] at cq
    rw [←e1] at cq
    rw [if_pos h4,List.append_nil,k3] at st
    obtain ⟨k0,rfl⟩:∃k0,k=k0+1:=⟨k-1,by omega⟩
    have e1':((((k0+1:Nat):Int))-1).toNat=k0:=by omega
    repeat' (first|refine wG ?_|refine wC cq ?_|refine rg 6 10 ?_|refine rg 11 10 ?_|refine wS ?_ ?_<;>intro _|refine wB ?_ ?_)
    have hl0:0<l.length:=by omega
    refine awp_loop3 (fun (L:List Rat) (m j:Nat)=>([(0,qO l.length),(1,.d (.fn 133 [])),(5,.d (.int .i64 m)),(6,.own 500 (k0+1) (l.length-(k0+1)) 27 3),(7,.d (.int .i64 j))],[(500,qB L)])) (fun L m j=>1≤j∧k0+1+j≤l.length∧m+1≤k0+1+j∧1≤m∧L.length=l.length∧L.take m=cmpL (l.take (k0+1+j))∧∀i,k0+1+j≤i+1->i<l.length->L.getD i 0=l.getD i 0) (fun L m j=>l.length-j) l (k0+1) 1 ⟨Nat.le_refl _,by omega,by omega,by omega,rfl,by rw [←st],fun _ _ _=>rfl⟩ ⟨rfl,rfl,rfl,rfl,rfl,rfl⟩ ⟨rfl,trivial⟩ (fun L m j hj=>?_)
    obtain ⟨j1,j2,j3,j4,j5,j6,j7⟩:=hj
    by_cases h5:k0+1+j<l.length
    ·have cs:=qSn (l:=l) (p:=k0+1+j) (by omega) h5
     have ej:((j:Int)-1).toNat=j-1:=by omega
     have g1:=j7 (k0+1+j) (by omega) h5
     have g2:=j7 (k0+1+j-1) (by omega) (by omega)
     have cq2:=asc_eq (L.getD (k0+1+j) 0) (L.getD (k0+1+((j:Int)-1).toNat) 0) (by rw [g1];exact og _) (by rw [ej,show k0+1+(j-1)=k0+1+j-1 by omega,g2];exact og _)
     have e3:L.getD (k0+1+((j:Int)-1).toNat) 0=l.getD (k0+1+j-1) 0:=by rw [ej,show k0+1+(j-1)=k0+1+j-1 by omega,g2]
     by_cases h6:l.getD (k0+1+j) 0=l.getD (k0+1+j-1) 0
     ·rw [decide_eq_true (show L.getD (k0+1+j) 0=L.getD (k0+1+((j:Int)-1).toNat) 0 by rw [g1,e3];exact h6)] at cq2
      rw [if_pos h6,List.append_nil] at cs
      have j6':L.take m=cmpL (l.take (k0+1+(j+1))):=by
       show L.take m=cmpL (l.take (k0+1+j+1))
       rw [cs,j6]
      clear og ho hc st cs k3 h4 h6 j6 g1 g2 e3 cq
      repeat' (first|refine wG ?_|refine wC cq2 ?_|refine rg 6 10 ?_|refine rg 11 10 ?_|refine wS ?_ ?_<;>intro _|refine wB ?_ ?_)
      exact ⟨L,m,j+1,⟨by omega,by omega,by omega,j4,j5,j6',fun i a b=>j7 i (by omega) b⟩,by omega,⟨rfl,rfl,rfl,rfl,iv (by omega),rfl⟩,rfl,trivial⟩
     ·rw [decide_eq_false (show ¬L.getD (k0+1+j) 0=L.getD (k0+1+((j:Int)-1).toNat) 0 by rw [g1,e3];exact h6)] at cq2
      rw [if_neg h6] at cs
      obtain ⟨L2,hL2⟩:∃L2,L.set m (L.getD (k0+1+j) 0)=L2:=⟨_,rfl⟩
      have l2:L2.length=l.length:=by rw [←hL2,List.length_set];exact j5
      have j6':L2.take (m+1)=cmpL (l.take (k0+1+(j+1))):=by
       show L2.take (m+1)=cmpL (l.take (k0+1+j+1))
       rw [cs,←j6,←hL2,List.take_add_one,List.getElem?_set,if_pos rfl,if_pos (by omega),List.take_set_of_le (Nat.le_refl m),g1]
       rfl
      have j7':∀i,k0+1+(j+1)≤i+1->i<l.length->L2.getD i 0=l.getD i 0:=fun i a b=>by
       rw [←hL2,List.getD_eq_getElem?_getD,List.getElem?_set,if_neg (by omega),←List.getD_eq_getElem?_getD]
       exact j7 i (by omega) b
      clear og ho hc st cs k3 h4 h6 j6 g1 g2 e3 cq j7
      repeat' (first|refine wG ?_|refine wC cq2 ?_|refine rg 6 10 ?_|refine rg 11 10 ?_|refine wS ?_ ?_<;>intro _|refine wB ?_ ?_)
      exact ⟨L2,m+1,j+1,⟨by omega,by omega,by omega,by omega,l2,j6',j7'⟩,by omega,⟨rfl,rfl,iv (by omega),rfl,iv (by omega),rfl⟩,qBr hL2,trivial⟩
    ·have ee:k0+1+j=l.length:=by omega
     rw [ee,List.take_of_length_le (Nat.le_refl _)] at j6
     have hm:m=(cmpL l).length:=by rw [←j6,List.length_take];omega
     have hcop:qSk L m (l.length-m) (List.replicate (l.length-m) 0)=cmpL l++List.replicate (l.length-(cmpL l).length) 0:=by
      unfold qSk
      rw [j6,List.take_of_length_le (by rw [List.length_replicate];omega),List.length_replicate,Nat.min_self,List.drop_eq_nil_of_le (by omega),List.append_nil,hm]
     obtain ⟨m0,rfl⟩:∃m0,m=m0+1:=⟨m-1,by omega⟩
     rw [←hm] at hcop ⊢
     clear og ho st k3 h4 cq j6 j7
     repeat' (first|refine qSw 14 tt ?_|refine wG ?_|refine rg 6 10 ?_|refine rg 11 10 ?_|refine wS ?_ ?_<;>intro _|refine wB ?_ ?_)
     refine qId ?_
     refine awp_seq ?_
     refine awp_region ?_
     refine goL ?_
     refine goL ?_
     refine goL ?_
     refine stepClear (en:=qC) (z:=0) rfl rfl rfl rfl rfl rfl rfl rfl rfl rfl rfl (by rw [show (qC 0:List D)=rC r0 from congrArg rC (by decide+kernel:rq 0=r0)];exact leL) (by show m0+1+(l.length-(m0+1))≤L.length;omega) ?_
     repeat' (first|refine wG ?_|refine rg 6 10 ?_|refine rg 11 10 ?_|refine wS ?_ ?_<;>intro _|refine wB ?_ ?_)
     all_goals first|exact leVT|exact ⟨qBr hcop,trivial⟩
   ·rw [decide_eq_false h4] at cq
    rw [if_neg h4,k3] at st
    have st2:cmpL (l.take (k+1))=l.take (k+1):=by
     rw [st,List.take_add_one,List.getD_eq_getElem?_getD,List.getElem?_eq_getElem h3];rfl
    rw [←e1] at cq
    clear og ho hc st k3 h4
    repeat' (first|refine wG ?_|refine wC cq ?_|refine rg 6 10 ?_|refine rg 11 10 ?_|refine wS ?_ ?_<;>intro _|refine wB ?_ ?_)
    exact ⟨k+1,⟨by omega,by omega,st2⟩,by omega,⟨rfl,rfl,iv (by omega),rfl⟩,rfl,trivial⟩
  ·have e:k=l.length:=by omega
   subst e
   rw [List.take_of_length_le (Nat.le_refl _)] at k3
   rw [k3,Nat.sub_self]
   clear hc og ho
   repeat' (first|refine wG ?_|refine rg 6 10 ?_|refine rg 11 10 ?_|refine wS ?_ ?_<;>intro _|refine wB ?_ ?_)
   all_goals first|exact leVT|exact ⟨qBr (by simp),trivial⟩
end Go.Proofs.YtejigedigmagdaaGreat
