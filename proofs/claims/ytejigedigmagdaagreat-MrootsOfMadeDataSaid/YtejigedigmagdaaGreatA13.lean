/-
 Contracts of functions of the program, and the layer that they are walked with: TukL TukM Z27 Z26 Z28 Z30 Z31 VUd VUj VUk Z32 Z33. Conditions: as each says.
-/
import Derived.KernelRfl
import Derived.Test.YtejigedigmagdaaGreatA12
set_option linter.unusedVariables false
set_option linter.unusedSimpArgs false
set_option linter.unnecessarySimpa false
namespace Go.Vw
theorem slow{g:List Rat}{H:Nat}(hg:∀i,okQ H (cf g i)):∃L:Rat,0<L∧∀x y,ab x≤4096->ab y≤4096->ab (qAb g x-qAb g y)≤L*ab (x-y):=⟨twoQ (32*H+14*g.length),qDj _,fun x y hx hy=>lp_up hg x y hx hy⟩
theorem bounded{h:List Rat}{H:Nat}(hh:∀i,okQ H (cf h i)):∃L:Rat,0<L∧∀x,ab x≤4096->ab (qAb h x)≤L:=⟨twoQ (32*H+13*h.length),qDj _,fun x hx=>ev_up hh x hx⟩
theorem qOq(p:List Rat):∃H,1<H∧∀i,okQ H (cf p i):=by
 induction p with
 |nil=>exact ⟨2,by decide,fun i=>qB9 (by decide)⟩
 |cons a p ih=>
  obtain ⟨H,h1,h2⟩:=ih
  obtain ⟨K,hK⟩:∃K,(qAe a.num.natAbs).length+(qAe a.den).length+1=K:=⟨_,rfl⟩
  refine ⟨H+K,by omega,fun i=>?_⟩
  cases i with
  |zero=>exact ⟨by show (qAe a.num.natAbs).length<H+K;omega,by show (qAe a.den).length<H+K;omega⟩
  |succ i=>exact (h2 i).mono (by omega)
theorem keeps_near{g:List Rat}{x y η:Rat}(hx: -4096≤x)(hy:y≤4096)(hlt:x<y)(h0:0<η)(hg:∀z,x≤z->z≤y->η≤ab (qAb g z)):0<qAb g x↔0<qAb g y:=by
 obtain ⟨H,_,hH⟩:=qOq g
 obtain ⟨L,l0,hL⟩:=slow hH
 obtain ⟨e,e0,he⟩:∃d,0<d∧d*L=η/2:=⟨_,qDr (a:=η/2) (b:=L) (by grind) l0⟩
 refine ways2 (R:=fun s t=>(0<qAb g s↔0<qAb g t)) (fun a b c h1 h2=>h1.trans h2) e0 hlt fun s t h1 h2 h3 h4=>?_
 have d:=hL s t (qK9 (by grind) (by grind)) (qK9 (by grind) (by grind))
 have ds:ab (s-t)≤e:=qK9 (by grind) (by grind)
 have k:=qAt (Rat.le_refl (a:=L)) ds (qAo _) (Rat.le_of_lt l0)
 have:=qOc (u:=qAb g s) (v:=qAb g t) h0 (hg s h1 (by grind)) (by have:=qAo (qAb g s-qAb g t);grind)
 grind
theorem mono_on{Q:List Rat}{x y ε:Rat}(hx: -4096≤x)(hy:y≤4096)(he:0<ε)(hd:∀z,x≤z->z≤y->ε≤dEv Q z){s t:Rat}(h1:x≤s)(h2:s<t)(h3:t≤y):qAb Q s<qAb Q t:=by
 obtain ⟨K,hK,ht⟩:=taylor 4096 (by decide) Q
 obtain ⟨u,pu,mu⟩:∃d,0<d∧d*(1+K)=ε/2:=⟨_,qDr (a:=ε/2) (b:=1+K) (by grind) (by grind)⟩
 refine ways2 (R:=fun s t=>qAb Q s<qAb Q t) (fun a b c h1 h2=>by grind) pu h2 fun a b c1 c2 c3 c4=>?_
 have T:=ht a b (qK9 (by grind) (by grind)) (qK9 (by grind) (by grind))
 have hab:ab (b-a)=b-a:=by unfold ab;rw [if_neg (by grind)]
 rw [hab] at T
 have g:=qTk (qAb Q b-qAb Q a-(b-a)*dEv Q a)
 have f:=hd a (by grind) (by grind)
 have t1:K*(b-a)<ε:=qKr hK he (by grind) c4 (by grind)
 have t2:K*(b-a)*(b-a)<ε*(b-a):=Rat.mul_lt_mul_of_pos_right t1 (by grind)
 have t3:=qCl f (show 0≤b-a by grind)
 grind
theorem dEv_neg(Q:List Rat)(x:Rat):dEv (negC Q) x= -(dEv Q x):=by
 unfold negC
 rw [dEv_smul]
 grind
theorem ev_neg(Q:List Rat)(x:Rat):qAb (negC Q) x= -(qAb Q x):=by
 unfold negC
 rw [qA4]
 grind
theorem low_on{Q:List Rat}(hb:Bez Q (derP Q)){lo hi:Rat}(l1: -4096≤lo)(h1:hi≤4096)(hs:(∀z,lo≤z->z≤hi->0<qAb Q z)∨(∀z,lo≤z->z≤hi->qAb Q z<0)):∃δ,0<δ∧∀x y,lo≤x->x<y->y≤hi->y-x≤δ->∃η,0<η∧∀z,x≤z->z≤y->η≤ab (qAb Q z):=by
 obtain ⟨u,v,huv⟩:=hb
 obtain ⟨H1,_,o1⟩:=qOq u
 obtain ⟨H2,_,o2⟩:=qOq v
 obtain ⟨H3,_,o3⟩:=qOq Q
 obtain ⟨H4,_,o4⟩:=qOq (derP Q)
 obtain ⟨L1,p1,b1⟩:=bounded o1
 obtain ⟨L2,p2,b2⟩:=bounded o2
 obtain ⟨L3,p3,b3⟩:=slow o3
 obtain ⟨L4,p4,b4⟩:=slow o4
 obtain ⟨ε,e0,he⟩:∃d,0<d∧d*(L1+L2)=1:=⟨_,qDr (a:=1) (b:=L1+L2) (by decide) (by grind)⟩
 obtain ⟨δ,d0,hδ⟩:∃d,0<d∧d*(L3+L4)=ε/2:=⟨_,qDr (a:=ε/2) (b:=L3+L4) (by grind) (by grind)⟩
 refine ⟨δ,d0,fun x y a1 a2 a3 a4=>?_⟩
 have dom:∀z,lo≤z->z≤hi->ab z≤4096:=fun z a b=>qK9 (by grind) (by grind)
 have far:ε≤ab (qAb Q x)∨ε≤ab (dEv Q x):=by
  refine Classical.byContradiction fun k=>?_
  have k1:ab (qAb Q x)<ε:=Rat.not_le.1 fun e=>k (.inl e)
  have k2:ab (dEv Q x)<ε:=Rat.not_le.1 fun e=>k (.inr e)
  have h:=huv x
  rw [qCy] at h
  have g:=qSt (qAb u x*qAb Q x) (qAb v x*dEv Q x)
  rw [h,qEu,qEu,show ab (1:Rat)=1 by decide+kernel] at g
  have m1:=qAt (b1 x (dom x a1 (by grind))) (Rat.le_refl (a:=ab (qAb Q x))) (qAo _) (Rat.le_of_lt p1)
  have m2:=qAt (b2 x (dom x a1 (by grind))) (Rat.le_refl (a:=ab (dEv Q x))) (qAo _) (Rat.le_of_lt p2)
  have m3:=Rat.mul_lt_mul_of_pos_left k1 p1
  have m4:=Rat.mul_lt_mul_of_pos_left k2 p2
  grind
 have near:∀z,x≤z->z≤y->ab (qAb Q x-qAb Q z)≤ε/2∧ab (dEv Q x-dEv Q z)≤ε/2:=fun z z1 z2=>by
  have dz:ab (x-z)≤δ:=qK9 (by grind) (by grind)
  have c3:=b3 x z (dom x a1 (by grind)) (dom z (by grind) (by grind))
  have c4:=b4 x z (dom x a1 (by grind)) (dom z (by grind) (by grind))
  rw [qCy,qCy] at c4
  have m3:=qAt (Rat.le_refl (a:=L3)) dz (qAo _) (Rat.le_of_lt p3)
  have m4:=qAt (Rat.le_refl (a:=L4)) dz (qAo _) (Rat.le_of_lt p4)
  have q3:=Rat.mul_nonneg (Rat.le_of_lt d0) (Rat.le_of_lt p3)
  have q4:=Rat.mul_nonneg (Rat.le_of_lt d0) (Rat.le_of_lt p4)
  constructor<;>grind
 rcases far with f|f
 ·refine ⟨ε/2,by grind,fun z z1 z2=>?_⟩
  have n:=(near z z1 z2).1
  have g:=qSt (qAb Q z) (qAb Q x-qAb Q z)
  have e:qAb Q z+(qAb Q x-qAb Q z)=qAb Q x:=by grind
  rw [e] at g
  grind
 ·-- the slope keeps its sign
  have side:(∀z,x≤z->z≤y->ε/2≤dEv Q z)∨(∀z,x≤z->z≤y->ε/2≤dEv (negC Q) z):=by
   by_cases c:dEv Q x<0
   ·refine .inr fun z z1 z2=>?_
    have n:=(near z z1 z2).2
    have g:=qTk (dEv Q x-dEv Q z)
    have g2: -(dEv Q x-dEv Q z)≤ab (dEv Q x-dEv Q z):=by unfold ab;split<;>grind
    have f2:ab (dEv Q x)= -(dEv Q x):=by unfold ab;rw [if_pos c]
    rw [dEv_neg]
    grind
   ·refine .inl fun z z1 z2=>?_
    have n:=(near z z1 z2).2
    have g2:(dEv Q x-dEv Q z)≤ab (dEv Q x-dEv Q z):=by unfold ab;split<;>grind
    have f2:ab (dEv Q x)=dEv Q x:=by unfold ab;rw [if_neg c]
    grind
  have rx: -4096≤x:=by grind
  have ry:y≤4096:=by grind
  have abx:0<ab (qAb Q x):=by
   unfold ab
   rcases hs with hs|hs
   ·have:=hs x a1 (by grind);rw [if_neg (by grind)];exact this
   ·have:=hs x a1 (by grind);rw [if_pos this];grind
  have aby:0<ab (qAb Q y):=by
   unfold ab
   rcases hs with hs|hs
   ·have:=hs y (by grind) a3;rw [if_neg (by grind)];exact this
   ·have:=hs y (by grind) a3;rw [if_pos this];grind
  obtain ⟨m1,m2⟩:=qRt (Rat.le_refl (a:=mn (ab (qAb Q x)) (ab (qAb Q y))))
  refine ⟨mn (ab (qAb Q x)) (ab (qAb Q y)),qJ6 abx aby,fun z z1 z2=>?_⟩
  have mono:(qAb Q x≤qAb Q z∧qAb Q z≤qAb Q y)∨(qAb Q z≤qAb Q x∧qAb Q y≤qAb Q z):=by
   rcases side with sd|sd
   ·left
    constructor
    ·rcases Rat.le_iff_lt_or_eq.1 z1 with g|g
     ·exact Rat.le_of_lt (mono_on rx ry (by grind) sd Rat.le_refl g z2)
     ·rw [g];exact Rat.le_refl
    ·rcases Rat.le_iff_lt_or_eq.1 z2 with g|g
     ·exact Rat.le_of_lt (mono_on rx ry (by grind) sd z1 g Rat.le_refl)
     ·rw [g];exact Rat.le_refl
   ·right
    constructor
    ·rcases Rat.le_iff_lt_or_eq.1 z1 with g|g
     ·have:=mono_on rx ry (by grind) sd Rat.le_refl g z2
      rw [ev_neg,ev_neg] at this
      grind
     ·rw [g];exact Rat.le_refl
    ·rcases Rat.le_iff_lt_or_eq.1 z2 with g|g
     ·have:=mono_on rx ry (by grind) sd z1 g Rat.le_refl
      rw [ev_neg,ev_neg] at this
      grind
     ·rw [g];exact Rat.le_refl
  rcases hs with hs|hs
  ·have q1:=hs x a1 (by grind)
   have q2:=hs y (by grind) a3
   have q3:=hs z (by grind) (by grind)
   have e1:ab (qAb Q x)=qAb Q x:=by unfold ab;rw [if_neg (by grind)]
   have e2:ab (qAb Q y)=qAb Q y:=by unfold ab;rw [if_neg (by grind)]
   have e3:ab (qAb Q z)=qAb Q z:=by unfold ab;rw [if_neg (by grind)]
   grind
  ·have q1:=hs x a1 (by grind)
   have q2:=hs y (by grind) a3
   have q3:=hs z (by grind) (by grind)
   have e1:ab (qAb Q x)= -(qAb Q x):=by unfold ab;rw [if_pos q1]
   have e2:ab (qAb Q y)= -(qAb Q y):=by unfold ab;rw [if_pos q2]
   have e3:ab (qAb Q z)= -(qAb Q z):=by unfold ab;rw [if_pos q3]
   grind
theorem pow_pos'{x:Rat}(h:0<x):∀k:Nat,0<x^k
 |0=>by rw [Rat.pow_zero];decide
 |k+1=>by rw [Rat.pow_succ];exact Rat.mul_pos (pow_pos' h k) h
theorem ab_pow(x:Rat):∀k:Nat,ab (x^k)=ab x^k
 |0=>by rw [Rat.pow_zero,Rat.pow_zero];decide+kernel
 |k+1=>by rw [Rat.pow_succ,Rat.pow_succ,qEu,ab_pow x k]
theorem pow_mono{x y:Rat}(h0:0≤x)(h:x≤y):∀k:Nat,x^k≤y^k∧0≤x^k
 |0=>by rw [Rat.pow_zero,Rat.pow_zero];exact ⟨Rat.le_refl,by decide⟩
 |k+1=>by
  obtain ⟨a,b⟩:=pow_mono h0 h k
  rw [Rat.pow_succ,Rat.pow_succ]
  exact ⟨qAt a h h0 (Rat.le_trans b a),Rat.mul_nonneg b h0⟩
theorem sign_cnt{ch:List Rat->List Rat}(hc:ChS ch){W:List Rat}(tW:Tr W)(W0:W≠[]){u v:Rat}(hu: -4096≤u)(hv:v≤4096)(hlt:u<v)(zu:qAb W u≠0)(zv:qAb W v≠0)(hs:¬(0<qAb W u↔0<qAb W v)):1≤cntC ch W u v:=by
 refine Classical.byContradiction fun k=>hs ?_
 have nn:∀a b,0≤cntC ch W a b:=fun a b=>qSl hc tW W0 a b
 have c0:cntC ch W u v=0:=by have:=nn u v;omega
 have dom:∀z,u≤z->z≤v->ab z≤4096:=fun z a b=>qK9 (by grind) (by grind)
 have nz:∀z,u≤z->z≤v->qAb W z≠0:=fun z a b e=>by
  rcases Rat.le_iff_lt_or_eq.1 a with g|g
  ·have:=qJa hc tW W0 g b e
   omega
  ·rw [←g] at e;exact zu e
 -- no count on any part
 have part:∀a b,u≤a->a<b->b≤v->cntC ch W a b=0:=fun a b h1 h2 h3=>by
  have n1:=nn a b
  have e1:cntC ch W u b=0:=by
   rcases Rat.le_iff_lt_or_eq.1 h3 with g|g
   ·have:=cntC_add (ch:=ch) W (a:=u) (m:=b) (b:=v) (by grind) g
    have:=nn u b
    have:=nn b v
    omega
   ·rw [g];exact c0
  rcases Rat.le_iff_lt_or_eq.1 h1 with g|g
  ·have:=cntC_add (ch:=ch) W (a:=u) (m:=a) (b:=b) g h2
   have:=nn u a
   omega
  ·rw [←g];exact e1
 obtain ⟨tQ,hb⟩:=quo_tr tW W0
 have qz:∀z,u≤z->z≤v->qAb (quoP W) z≠0:=fun z a b e=>nz z a b ((qQc tW W0 z).1 e)
 obtain ⟨e,he,hvs⟩:=qIn hc (X:=4096) (by decide) tQ hb (Nat.lt_succ_self _)
 have sgn:∀a b,u≤a->a<b->b≤v->(0<qAb (quoP W) a↔0<qAb (quoP W) b):=fun a b h1 h2 h3=>by
  refine ways2 (R:=fun s t=>(0<qAb (quoP W) s↔0<qAb (quoP W) t)) (fun x y z p q=>p.trans q) he h2 fun s t q1 q2 q3 q4=>?_
  have p:=part s t (by grind) q2 (by grind)
  unfold cntC at p
  rw [if_pos q2,hvs s t (dom s (by grind) (by grind)) (dom t (by grind) (by grind)) q2 q4] at p
  have nc:¬qGp (qAb (quoP W)) s t:=fun h=>by rw [if_pos h] at p;exact absurd p (by decide)
  have z1:=qz s (by grind) (by grind)
  have z2:=qz t (by grind) (by grind)
  unfold qGp at nc
  grind
 have one:(∀z,u≤z->z≤v->0<qAb (quoP W) z)∨(∀z,u≤z->z≤v->qAb (quoP W) z<0):=by
  have key:∀z,u≤z->z≤v->(0<qAb (quoP W) u↔0<qAb (quoP W) z):=fun z a b=>by
   rcases Rat.le_iff_lt_or_eq.1 a with g|g
   ·exact sgn u z Rat.le_refl g b
   ·rw [g]
  by_cases p:0<qAb (quoP W) u
  ·exact .inl fun z a b=>(key z a b).1 p
  ·refine .inr fun z a b=>?_
   have h1:=fun h=>p ((key z a b).2 h)
   have h2:=qz z a b
   grind
 obtain ⟨δ,d0,hδ⟩:=low_on hb hu hv one
 obtain ⟨kk,h,hh⟩:=dvd_pow tW W0
 obtain ⟨H,_,oh⟩:=qOq h
 obtain ⟨L,l0,bh⟩:=bounded oh
 have gs:0<qAb (gcdP W (derP W)) u↔0<qAb (gcdP W (derP W)) v:=by
  refine ways2 (R:=fun s t=>(0<qAb (gcdP W (derP W)) s↔0<qAb (gcdP W (derP W)) t)) (fun x y z p q=>p.trans q) d0 hlt fun s t q1 q2 q3 q4=>?_
  obtain ⟨η,n0,hη⟩:=hδ s t q1 q2 q3 q4
  obtain ⟨ζ,z0,hζ⟩:∃d,0<d∧d*L=η^kk:=⟨_,qDr (a:=η^kk) (b:=L) (pow_pos' n0 kk) l0⟩
  refine keeps_near (by grind) (by grind) q2 z0 fun z z1 z2=>?_
  have p1:=(pow_mono (Rat.le_of_lt n0) (hη z z1 z2) kk).1
  rw [←ab_pow] at p1
  have e1:=hh z
  have p2:ab (qAb (quoP W) z^kk)=ab (qAb (gcdP W (derP W)) z)*ab (qAb h z):=by rw [←qEu,←e1]
  rw [p2] at p1
  have p3:=qAt (Rat.le_refl (a:=ab (qAb (gcdP W (derP W)) z))) (bh z (dom z (by grind) (by grind))) (qAo _) (qAo _)
  refine Rat.not_lt.1 fun c=>?_
  have:=Rat.mul_lt_mul_of_pos_right c l0
  grind
 have qs:0<qAb (quoP W) u↔0<qAb (quoP W) v:=sgn u v Rat.le_refl hlt Rat.le_refl
 have qe:=qGh tW W0
 have eu:=qe u
 have ev:=qe v
 rw [show (divP W (gcdP W (derP W))).1=quoP W from rfl] at eu ev
 rw [eu] at zu ⊢
 rw [ev] at zv ⊢
 generalize qAb (quoP W) u=a at *
 generalize qAb (quoP W) v=b at *
 generalize qAb (gcdP W (derP W)) u=c at *
 generalize qAb (gcdP W (derP W)) v=d at *
 have a0:a≠0:=fun e=>zu (by rw [e,Rat.zero_mul])
 have c0':c≠0:=fun e=>zu (by rw [e,Rat.mul_zero])
 have b0:b≠0:=fun e=>zv (by rw [e,Rat.zero_mul])
 have d0':d≠0:=fun e=>zv (by rw [e,Rat.mul_zero])
 have pp:∀p q:Rat,p≠0->q≠0->(0<p*q↔(0<p↔0<q)):=fun p q hp hq=>by
  by_cases h1:0<p
  ·by_cases h2:0<q
   ·have:=Rat.mul_pos h1 h2;grind
   ·have:=Rat.mul_pos h1 (show 0< -q by grind);grind
  ·by_cases h2:0<q
   ·have:=Rat.mul_pos (show 0< -p by grind) h2;grind
   ·have:=Rat.mul_pos (show 0< -p by grind) (show 0< -q by grind);grind
 rw [pp a c a0 c0',pp b d b0 d0',qs,gs]
theorem psi_up{d sq:Rat}(h:0≤d):0≤psiV d sq:=by
 unfold psiV
 exact Rat.mul_nonneg h (sq_nonneg'' _)
theorem psi_down{d sq:Rat}(h:d≤0):psiV d sq≤0:=by
 have:=psi_up (d:= -d) (sq:=sq) (by grind)
 unfold psiV at this ⊢
 have e: -d* -d=d*d:=by grind
 rw [e] at this
 grind
theorem sumV_up{sq t:Rat}:∀{l:List Rat},(∀v∈l,t≤v)->0≤sumV l sq t
 |[],_=>Rat.le_refl
 |v::l,h=>by
  have:=sumV_up (sq:=sq) (t:=t) (l:=l) fun u hu=>h u (List.mem_cons_of_mem _ hu)
  have p:=psi_up (d:=v-t) (sq:=sq) (by have:=h v List.mem_cons_self;grind)
  show 0≤psiV (v-t) sq+sumV l sq t
  grind
theorem qQt{sq t:Rat}:∀{l:List Rat},(∀v∈l,v≤t)->sumV l sq t≤0
 |[],_=>Rat.le_refl
 |v::l,h=>by
  have:=qQt (sq:=sq) (t:=t) (l:=l) fun u hu=>h u (List.mem_cons_of_mem _ hu)
  have p:=psi_down (d:=v-t) (sq:=sq) (by have:=h v List.mem_cons_self;grind)
  show psiV (v-t) sq+sumV l sq t≤0
  grind
theorem act_iff{x:List Rat}{r t v:Rat}:v∈actF x r t↔v∈x∧ -r<v-t∧v-t<r:=by
 unfold actF
 rw [List.mem_filter,decide_eq_true_eq,absQ_lt]
theorem act_ne{x:List Rat}{r t:Rat}:actF x r t≠[]↔∃v∈x, -r<v-t∧v-t<r:=by
 constructor
 ·intro h
  obtain ⟨v,hv⟩:=List.exists_mem_of_ne_nil _ h
  obtain ⟨a,b⟩:=act_iff.1 hv
  exact ⟨v,a,b⟩
 ·rintro ⟨v,a,b⟩ e
  have:=act_iff.2 ⟨a,b⟩
  rw [e] at this
  simp at this
theorem cluster{x:List Rat}{r sq lo:Rat}(hr:0<r):∀(n:Nat) (w:Rat),(x.filter fun v=>decide (w<v)).length≤n->w∈x->lo≤w->(∀t,lo≤t->t≤w->actF x r t≠[])->∃w',w'∈x∧lo≤w'∧sumV (actF x r w') sq w'≤0∧∀t,lo≤t->t≤w'->actF x r t≠[]:=by
 intro n
 induction n with
 |zero=>
  intro w hn hw hl ha
  refine ⟨w,hw,hl,qQt fun v hv=>?_,ha⟩
  refine Rat.not_lt.1 fun k=>?_
  have:v∈x.filter fun v=>decide (w<v):=List.mem_filter.2 ⟨(act_iff.1 hv).1,decide_eq_true k⟩
  rw [List.length_eq_zero_iff.1 (Nat.le_zero.1 hn)] at this
  simp at this
 |succ n ih=>
  intro w hn hw hl ha
  by_cases c:∃v∈x,w<v∧v-w<r
  ·obtain ⟨v,v1,v2,v3⟩:=c
   refine ih v ?_ v1 (by grind) fun t t1 t2=>?_
   ·have lt:(x.filter fun u=>decide (v<u)).length<(x.filter fun u=>decide (w<u)).length:=by
     have e:(x.filter fun u=>decide (v<u))=(x.filter fun u=>decide (w<u)).filter fun u=>decide (v<u):=by
      rw [List.filter_filter]
      refine List.filter_congr fun u _=>?_
      by_cases k:v<u
      ·have:w<u:=by grind
       simp [k,this]
      ·simp [k]
     rw [e]
     refine Nat.lt_of_le_of_ne (List.length_filter_le _ _) fun h=>?_
     have:=List.length_filter_eq_length_iff.1 h v (List.mem_filter.2 ⟨v1,decide_eq_true v2⟩)
     rw [decide_eq_true_eq] at this
     exact Rat.lt_irrefl this
    omega
   ·by_cases k:t≤w
    ·exact ha t t1 k
    ·exact act_ne.2 ⟨v,v1,by grind,by grind⟩
  ·refine ⟨w,hw,hl,qQt fun v hv=>?_,ha⟩
   obtain ⟨a,b1,b2⟩:=act_iff.1 hv
   exact Rat.not_lt.1 fun k=>c ⟨v,a,k,b2⟩
def Hit(q:List Rat)(F:Rat->Rat)(lo w:Rat):Prop:=
 (∃j,j+2<q.length∧lo≤q.getD (j+1) 0∧q.getD (j+1) 0≤w∧F (q.getD (j+1) 0)=0)∨
 (∃j u v,j+1<q.length∧q.getD j 0≤u∧u<v∧v≤q.getD (j+1) 0∧lo≤u∧v≤w∧0<F u∧F v<0)∨
 (∃j t,j+1<q.length∧q.getD j 0<t∧t<q.getD (j+1) 0∧lo≤t∧t≤w∧F t=0)
theorem asc_lt'{q:List Rat}(h:q.Pairwise (·< ·)){i j:Nat}(hij:i<j)(hj:j<q.length):q.getD i 0<q.getD j 0:=by
 rw [qBe hj,qBe (show i<_ by omega)]
 exact List.pairwise_iff_getElem.1 h i j (by omega) hj hij
theorem qGk{q:List Rat}{t:Rat}:∀(n j:Nat),j+n+1=q.length->q.getD j 0≤t->t<q.getD (j+n) 0->∃i,j≤i∧i+1<q.length∧q.getD i 0≤t∧t<q.getD (i+1) 0
 |0,j,hn,h1,h2=>by
  exfalso
  rw [Nat.add_zero] at h2
  grind
 |n+1,j,hn,h1,h2=>by
  by_cases c:t<q.getD (j+1) 0
  ·exact ⟨j,Nat.le_refl _,by omega,h1,c⟩
  ·obtain ⟨i,i1,i2,i3,i4⟩:=qGk (q:=q) (t:=t) n (j+1) (by omega) (Rat.not_lt.1 c) (by rw [show j+1+n=j+(n+1) by omega];exact h2)
   exact ⟨i,by omega,i2,i3,i4⟩
theorem hit_zero{q:List Rat}{F:Rat->Rat}{lo w t:Rat}(q0:q.getD 0 0<t)(ql:t<q.getD (q.length-1) 0)(hl:1<q.length)(h1:lo≤t)(h2:t≤w)(hz:F t=0):Hit q F lo w:=by
 obtain ⟨i,_,i2,i3,i4⟩:=qGk (q:=q) (t:=t) (q.length-1) 0 (by omega) (Rat.le_of_lt q0) (by rw [Nat.zero_add];exact ql)
 rcases Rat.le_iff_lt_or_eq.1 i3 with g|g
 ·exact .inr (.inr ⟨i,t,i2,g,i4,h1,h2,hz⟩)
 ·cases i with
  |zero=>rw [g] at q0;exact absurd q0 Rat.lt_irrefl
  |succ i=>exact .inl ⟨i,by omega,by rw [g];exact h1,by rw [g];exact h2,by rw [g];exact hz⟩
theorem hit_walk{q:List Rat}(ha:q.Pairwise (·< ·)){F:Rat->Rat}{lo w:Rat}(hw:F w<0)(wl:w<q.getD (q.length-1) 0):∀(n j:Nat) (u:Rat),j+n+1=q.length->q.getD j 0≤u->u<q.getD (j+n) 0->lo≤u->u<w->0<F u->Hit q F lo w
 |0,j,u,hn,h1,h2,_,_,_=>by
  exfalso
  rw [Nat.add_zero] at h2
  grind
 |n+1,j,u,hn,h1,h2,h3,h4,h5=>by
  by_cases c:u<q.getD (j+1) 0
  ·by_cases d:w≤q.getD (j+1) 0
   ·exact .inr (.inl ⟨j,u,w,by omega,h1,h4,d,h3,Rat.le_refl,h5,hw⟩)
   ·have d':q.getD (j+1) 0<w:=Rat.not_le.1 d
    have j2:j+2<q.length:=by
     refine Nat.lt_of_not_le fun k=>?_
     have:q.length-1=j+1:=by omega
     rw [this] at wl
     grind
    by_cases z:F (q.getD (j+1) 0)=0
    ·exact .inl ⟨j,j2,by grind,Rat.le_of_lt d',z⟩
    ·by_cases s:F (q.getD (j+1) 0)<0
     ·exact .inr (.inl ⟨j,u,q.getD (j+1) 0,by omega,h1,c,Rat.le_refl,h3,Rat.le_of_lt d',h5,s⟩)
     ·refine hit_walk ha hw wl n (j+1) (q.getD (j+1) 0) (by omega) Rat.le_refl ?_ (by grind) d' (by grind)
      exact asc_lt' ha (by omega) (by omega)
  ·exact hit_walk ha hw wl n (j+1) u (by omega) (Rat.not_lt.1 c) (by rw [show j+1+n=j+(n+1) by omega];exact h2) h3 h4 h5
theorem hit_ex{x:List Rat}{r sq lo:Rat}(hr:0<r)(hlo:lo∈x)(least:∀v∈x,lo≤v):∃w,w∈x∧(∀t,lo≤t->t≤w->actF x r t≠[])∧Hit (qAc x r) (fun t=>sumV (actF x r t) sq t) lo w:=by
 obtain ⟨w,w1,w2,w3,w4⟩:=cluster (sq:=sq) hr _ lo (Nat.le_refl _) hlo Rat.le_refl fun t h1 h2=>act_ne.2 ⟨lo,hlo,by grind,by grind⟩
 have B:=qBx x r
 have first:∀v∈x,(qAc x r).getD 0 0<v:=fun v hv=>by
  obtain ⟨j,hj,e⟩:=List.getElem_of_mem (B.lo v hv)
  have:=qU3 B.asc (Nat.zero_le j) hj
  rw [qBe (by omega)]
  grind
 have last:∀v∈x,v<(qAc x r).getD ((qAc x r).length-1) 0:=fun v hv=>by
  obtain ⟨j,hj,e⟩:=List.getElem_of_mem (B.hi v hv)
  have:=qU3 B.asc (show j≤(qAc x r).length-1 by omega) (by omega)
  rw [qBe (by omega)]
  grind
 have l1:1<(qAc x r).length:=by
  obtain ⟨i,hi,e1⟩:=List.getElem_of_mem (B.lo lo hlo)
  obtain ⟨j,hj,e2⟩:=List.getElem_of_mem (B.hi lo hlo)
  refine Nat.lt_of_not_le fun k=>?_
  have a1:i=0:=by omega
  have a2:j=0:=by omega
  subst a1;subst a2
  grind
 refine ⟨w,w1,w4,?_⟩
 have up:0≤sumV (actF x r lo) sq lo:=sumV_up fun v hv=>least v (act_iff.1 hv).1
 rcases Rat.le_iff_lt_or_eq.1 up with g|g
 ·rcases Rat.le_iff_lt_or_eq.1 w3 with k|k
  ·have lt:lo<w:=by
    rcases Rat.le_iff_lt_or_eq.1 w2 with h|h
    ·exact h
    ·rw [h] at g;grind
   have h0:=first lo hlo
   exact hit_walk B.asc k (last w w1) ((qAc x r).length-1) 0 lo (by omega) (Rat.le_of_lt h0) (by rw [Nat.zero_add];exact last lo hlo) Rat.le_refl lt g
  ·exact hit_zero (first w w1) (last w w1) l1 w2 Rat.le_refl k
 ·exact hit_zero (first lo hlo) (last lo hlo) l1 Rat.le_refl w2 g.symm
end Go.Vw
set_option maxHeartbeats 8000000
namespace Go.Proofs.YtejigedigmagdaaGreat
open Go.Vw
attribute [local irreducible] awp awpL awpR qKb
theorem qFt{C:Rat->Rat->Int}(hC:Cnt C){a m b:Rat}(h1:a≤m)(h2:m≤b):C a m+C m b=C a b:=by
 rcases Rat.le_iff_lt_or_eq.1 h1 with g|g
 ·rcases Rat.le_iff_lt_or_eq.1 h2 with k|k
  ·exact hC.add a m b g k
  ·rw [k,hC.none b b Rat.lt_irrefl];omega
 ·rw [g,hC.none m m Rat.lt_irrefl];omega
theorem qUw{C:Rat->Rat->Int}(hC:Cnt C)(a b:Rat):0≤C a b:=by
 by_cases h:a<b
 ·exact hC.nonneg a b h
 ·rw [hC.none a b h];exact Int.le_refl 0
theorem qRn{W:List Rat}{a b:Rat}(h:WOk W a b){last to width:Rat}{x y:I2}(hy:Nrw W last to width x y){c:Rat}(hc:c<y.1):1≤cfn W c y.2:=by
 have hd:=h.deep
 rcases hy.root with ⟨e,z⟩|⟨lt,e⟩
 ·rw [qTg h.tr]
  exact qJa qDx h.tr h.ne (s:=y.2) (by rw [←e];exact hc) Rat.le_refl (by rw [←e];exact z)
 ·have:=hd.add c y.1 y.2 hc lt
  have:=hd.nonneg c y.1 hc
  omega
theorem meets{x:List Rat}{r:Rat}{bits j:Nat}{R:List I2}{N P Q:Int}(h:TkIn N P Q x r)(hj:j+1<(qAc x r).length)(hp:qAj x r j≠[])(hR:PcR x r bits j R){u v:Rat}(hu:(qAc x r).getD j 0≤u)(huv:u≤v)(hv:v≤(qAc x r).getD (j+1) 0)(hC:∀c,(qAc x r).getD j 0≤c->c≤u->(c<u∨c=(qAc x r).getD j 0)->1≤cfn (wP2 x r j) c v):∃i,i<R.length∧u≤(R.getD i (0,0)).2∧(R.getD i (0,0)).1≤v:=by
 have hk:=h.wok hj hp
 obtain ⟨l,l1,l2,l3⟩:=hR.in_
 have hlen:=hR.len
 generalize (qAc x r).getD j 0=a at *
 generalize (qAc x r).getD (j+1) 0=b at *
 generalize wP2 x r j=W at *
 have hd:=hk.deep
 refine Classical.byContradiction fun no=>?_
 have out:∀i,i<R.length->(R.getD i (0,0)).2<u∨v<(R.getD i (0,0)).1:=fun i hi=>by
  refine Classical.byContradiction fun k=>no ⟨i,hi,?_,?_⟩
  ·exact Rat.not_lt.1 fun e=>k (.inl e)
  ·exact Rat.not_lt.1 fun e=>k (.inr e)
 have la:∀i,i≤R.length->a≤qEi a R i∧(i:Int)≤cfn W a (qEi a R i):=fun i=>by
  induction i with
  |zero=>exact fun _=>⟨Rat.le_refl,by show ((0:Nat):Int)≤cfn W a a;rw [hd.none a a Rat.lt_irrefl];decide⟩
  |succ i ih=>
   intro hi
   obtain ⟨g1,g2⟩:=ih (by omega)
   have n:=l3 i (by omega)
   have o:=qRn hk n n.last
   have e:qEi a R (i+1)=(R.getD i (0,0)).2:=rfl
   have lt:qEi a R i≤(R.getD i (0,0)).2:=by have:=n.last;have:=n.le;grind
   have ad:=qFt hd.toCnt g1 lt
   rw [e]
   exact ⟨by grind,by omega⟩
 obtain ⟨m,m1,m2,m3⟩:=least (P:=fun i=>i=R.length∨¬(R.getD i (0,0)).2<u) R.length (.inl rfl)
 have below:∀i,i<m->(R.getD i (0,0)).2<u:=fun i hi=>Classical.byContradiction fun k=>m3 i hi (.inr k)
 have cu:∃c,a≤c∧c≤u∧(c<u∨c=a)∧(m:Int)≤cfn W a c:=by
  cases m with
  |zero=>exact ⟨a,Rat.le_refl,hu,.inr rfl,qUw hd.toCnt a a⟩
  |succ m=>
   obtain ⟨g1,g2⟩:=la (m+1) m1
   have b:=below m (Nat.lt_succ_self m)
   have e:qEi a R (m+1)=(R.getD m (0,0)).2:=rfl
   rw [e] at g1 g2
   exact ⟨_,g1,Rat.le_of_lt b,.inl b,g2⟩
 have cv:((R.length:Int)-m)≤cfn W v b:=by
  rcases m2 with e|k
  ·have:=qUw hd.toCnt v b
   omega
  ·by_cases e:m=R.length
   ·have:=qUw hd.toCnt v b
    omega
   ·have om:v<(R.getD m (0,0)).1:=(out m (by omega)).resolve_left k
    have up:∀d,m+d+1≤R.length->v≤qEi a R (m+d+1)∧((d+1:Nat):Int)≤cfn W v (qEi a R (m+d+1)):=fun d=>by
     induction d with
     |zero=>
      intro hi
      have n:=l3 m (by omega)
      have o:=qRn hk n om
      exact ⟨by show v≤(R.getD m (0,0)).2;have:=n.le;grind,o⟩
     |succ d ih=>
      intro hi
      obtain ⟨g1,g2⟩:=ih (by omega)
      have n:=l3 (m+d+1) (by omega)
      have o:=qRn hk n n.last
      have lt:qEi a R (m+d+1)≤(R.getD (m+d+1) (0,0)).2:=by have:=n.last;have:=n.le;grind
      have ad:=qFt hd.toCnt g1 lt
      have e2:qEi a R (m+(d+1)+1)=(R.getD (m+d+1) (0,0)).2:=rfl
      rw [e2]
      exact ⟨by grind,by omega⟩
    obtain ⟨d,hd'⟩:∃d,R.length=m+d+1:=⟨R.length-m-1,by omega⟩
    obtain ⟨g1,g2⟩:=up d (by omega)
    have n:=l3 (m+d) (by omega)
    have e2:qEi a R (m+d+1)=(R.getD (m+d) (0,0)).2:=rfl
    rw [e2] at g1 g2
    have ad:=qFt hd.toCnt g1 (Rat.le_of_lt n.to)
    have:=qUw hd.toCnt (R.getD (m+d) (0,0)).2 b
    omega
 obtain ⟨c,k1,k2,k3,k4⟩:=cu
 have k5:=hC c k1 k2 k3
 have t1:=qFt hd.toCnt k1 (Rat.le_trans k2 huv)
 have t2:=qFt hd.toCnt (show a≤v by grind) hv
 omega
theorem meets_way{x:List Rat}{r:Rat}{bits j:Nat}{R:List I2}{N P Q:Int}(h:TkIn N P Q x r)(hj:j+1<(qAc x r).length)(hp:qAj x r j≠[])(hR:PcR x r bits j R){u v:Rat}(hu:(qAc x r).getD j 0≤u)(huv:u<v)(hv:v≤(qAc x r).getD (j+1) 0)(hC:1≤cfn (wP2 x r j) u v):∃i,i<R.length∧u≤(R.getD i (0,0)).2∧(R.getD i (0,0)).1≤v:=by
 have hk:=h.wok hj hp
 refine meets h hj hp hR hu (Rat.le_of_lt huv) hv fun c c1 c2 _=>?_
 have:=qFt hk.deep.toCnt c2 (Rat.le_of_lt huv)
 have:=qUw hk.deep.toCnt c u
 omega
theorem meets_at{x:List Rat}{r:Rat}{bits j:Nat}{R:List I2}{N P Q:Int}(h:TkIn N P Q x r)(hj:j+1<(qAc x r).length)(hp:qAj x r j≠[])(hR:PcR x r bits j R){u:Rat}(hu:(qAc x r).getD j 0<u)(hv:u<(qAc x r).getD (j+1) 0)(hz:qAb (wP2 x r j) u=0):∃i,i<R.length∧u≤(R.getD i (0,0)).2∧(R.getD i (0,0)).1≤u:=by
 have hk:=h.wok hj hp
 refine meets h hj hp hR (Rat.le_of_lt hu) Rat.le_refl (Rat.le_of_lt hv) fun c c1 c2 c3=>?_
 rw [qTg hk.tr]
 exact qJa qDx hk.tr hk.ne (s:=u) (by rcases c3 with g|g;exact g;rw [g];exact hu) Rat.le_refl hz
theorem wP2_ev{x:List Rat}{r:Rat}{j:Nat}(hp:qAj x r j≠[]):∃i k:Nat,∀t,qAb (qAj x r j) t=(t-(qAc x r).getD j 0)^i*((t-(qAc x r).getD (j+1) 0)^k*qAb (wP2 x r j) t):=by
 have lp:(qAj x r j).length≤6:=qHn _ _
 have tp:Tr (qAj x r j):=qLu _ _
 obtain ⟨s1,s2,s3,s4,i,s5⟩:=qFd 6 (s:=(qAc x r).getD j 0) tp hp lp
 obtain ⟨t1,t2,t3,t4,k,t5⟩:=qFd 6 (s:=(qAc x r).getD (j+1) 0) s1 s2 (by omega)
 exact ⟨i,k,fun t=>by rw [s5 t,t5 t];rfl⟩
theorem qPi{d:Rat}:∀k:Nat,(0<d->0<d^k)∧(d<0->d^k≠0)∧(∀e:Rat,d<0->e<0->0<d^k*e^k)
 |0=>by
  refine ⟨fun _=>?_,fun _=>?_,fun e _ _=>?_⟩
  ·rw [Rat.pow_zero];decide
  ·rw [Rat.pow_zero];decide
  ·rw [Rat.pow_zero,Rat.pow_zero];decide+kernel
 |k+1=>by
  obtain ⟨a,b,c⟩:=qPi (d:=d) k
  refine ⟨fun h=>by rw [Rat.pow_succ];exact Rat.mul_pos (a h) h,fun h e=>?_,fun e h1 h2=>?_⟩
  ·rw [Rat.pow_succ] at e
   rcases Rat.mul_eq_zero.1 e with g|g
   ·exact b h g
   ·grind
  ·rw [Rat.pow_succ,Rat.pow_succ]
   have p:=c e h1 h2
   have q:=Rat.mul_pos (show 0< -d by grind) (show 0< -e by grind)
   have:=Rat.mul_pos p q
   generalize d^k=y at *
   generalize e^k=z at *
   grind
theorem wP2_sign{x:List Rat}{r:Rat}{j:Nat}(hp:qAj x r j≠[]){u v:Rat}(hu:(qAc x r).getD j 0≤u)(huv:u<v)(hv:v≤(qAc x r).getD (j+1) 0)(pu:0<qAb (qAj x r j) u)(nv:qAb (qAj x r j) v<0):qAb (wP2 x r j) u≠0∧qAb (wP2 x r j) v≠0∧¬(0<qAb (wP2 x r j) u↔0<qAb (wP2 x r j) v):=by
 obtain ⟨i,k,h⟩:=wP2_ev hp
 have eu:=h u
 have ev:=h v
 rw [eu] at pu
 rw [ev] at nv
 generalize (qAc x r).getD j 0=a at *
 generalize (qAc x r).getD (j+1) 0=b at *
 generalize qAb (wP2 x r j) u=wu at *
 generalize qAb (wP2 x r j) v=wv at *
 have u0:wu≠0:=fun e=>by rw [e,Rat.mul_zero,Rat.mul_zero] at pu;exact Rat.lt_irrefl pu
 have v0:wv≠0:=fun e=>by rw [e,Rat.mul_zero,Rat.mul_zero] at nv;exact Rat.lt_irrefl nv
 have iu:0<(u-a)^i:=by
  rcases Rat.le_iff_lt_or_eq.1 hu with g|g
  ·exact (qPi i).1 (by grind)
  ·cases i with
   |zero=>rw [Rat.pow_zero];decide
   |succ i=>
    exfalso
    rw [g,Rat.pow_succ,Rat.sub_self,Rat.mul_zero,Rat.zero_mul] at pu
    exact Rat.lt_irrefl pu
 have iv:0<(v-a)^i:=(qPi i).1 (by grind)
 have kk:0<(u-b)^k*(v-b)^k:=by
  rcases Rat.le_iff_lt_or_eq.1 hv with g|g
  ·exact (qPi k).2.2 _ (by grind) (by grind)
  ·cases k with
   |zero=>rw [Rat.pow_zero,Rat.pow_zero];decide+kernel
   |succ k=>
    exfalso
    rw [g,Rat.pow_succ (b-b),Rat.sub_self,Rat.mul_zero,Rat.zero_mul,Rat.mul_zero] at nv
    exact Rat.lt_irrefl nv
 refine ⟨u0,v0,fun e=>?_⟩
 have p1:=Rat.mul_pos pu (show 0< -((v-a)^i*((v-b)^k*wv)) by grind)
 generalize (u-a)^i=A at *
 generalize (v-a)^i=B at *
 generalize (u-b)^k=C at *
 generalize (v-b)^k=D at *
 have AB:=Rat.mul_pos iu iv
 have p2:0<A*B*(C*D):=Rat.mul_pos AB kk
 have ww:0<wu*wv:=by
  by_cases c:0<wu
  ·exact Rat.mul_pos c (e.1 c)
  ·have c2:¬0<wv:=fun k=>c (e.2 k)
   have:=Rat.mul_pos (show 0< -wu by grind) (show 0< -wv by grind)
   grind
 have p3:=Rat.mul_pos p2 ww
 grind
theorem flat_no{x:List Rat}{r t:Rat}(h:qOz (qCi x r) t=true):actF x r t=[]:=by
 have key:∀(l:List Rat) (a:Rat),(a::l).Pairwise (·< ·)->∀z∈qEp r a l,z.1≤t->t≤z.2->∀v∈a::l,v+r≤t∨t≤v-r:=by
  intro l
  induction l with
  |nil=>intro a _ z hz;simp [qEp] at hz
  |cons b l ih=>
   intro a hp z hz z1 z2 v hv
   obtain ⟨p1,p2⟩:=List.pairwise_cons.1 hp
   obtain ⟨p3,p4⟩:=List.pairwise_cons.1 p2
   have fst:∀z∈qEp r b l,z.1≤t->t≤z.2->a+r≤t:=fun z hz z1 z2=>by
    have hb:=p1 b List.mem_cons_self
    have:∀(l:List Rat) (b:Rat),a<b->(b::l).Pairwise (·< ·)->∀z∈qEp r b l,z.1≤t->a+r≤t:=by
     intro l
     induction l with
     |nil=>intro b _ _ z hz;simp [qEp] at hz
     |cons c l ih2=>
      intro b hb hp z hz z1
      obtain ⟨q1,q2⟩:=List.pairwise_cons.1 hp
      have hc:=q1 c List.mem_cons_self
      unfold qEp at hz
      split at hz
      ·rcases List.mem_cons.1 hz with rfl|hz
       ·have z1':b+r≤t:=z1
        grind
       ·exact ih2 c (by grind) q2 z hz z1
      ·exact ih2 c (by grind) q2 z hz z1
    exact this l b hb p2 z hz z1
   have rest:z∈qEp r b l->v+r≤t∨t≤v-r:=fun hq=>by
    rcases List.mem_cons.1 hv with e|hv
    ·exact .inl (by rw [e];exact fst z hq z1 z2)
    ·exact ih b p2 z hq z1 z2 v hv
   unfold qEp at hz
   split at hz
   ·rcases List.mem_cons.1 hz with rfl|hz
    ·have z1':a+r≤t:=z1
     have z2':t≤b-r:=z2
     rcases List.mem_cons.1 hv with rfl|hv
     ·exact .inl z1'
     ·rcases List.mem_cons.1 hv with rfl|hv
      ·exact .inr z2'
      ·have:=p3 v hv
       exact .inr (by grind)
    ·exact rest hz
   ·exact rest hz
 obtain ⟨z,hz,hc⟩:=List.any_eq_true.1 h
 have hc':(decide (z.1≤t)&&decide (t≤z.2))=true:=hc
 rw [Bool.and_eq_true,decide_eq_true_eq,decide_eq_true_eq] at hc'
 refine Classical.byContradiction fun k=>?_
 obtain ⟨v,v1,v2,v3⟩:=act_ne.1 k
 have hv:v∈cmpL (srt x):=cmpL_mem.2 ((qD3 x).symm.subset v1)
 have as_:=qN2 (qL8 x)
 unfold qCi at hz
 match hl:cmpL (srt x),hv,as_,hz with
 |[],hv,_,_=>simp at hv
 |b::l,hv,as_,hz=>
  rcases key l b as_ z hz hc'.1 hc'.2 v hv with g|g
  ·grind
  ·grind
theorem pts_sub{x:List Rat}{r:Rat}{Rs:Nat->List I2}:∀{n j:Nat},j<n->∀y∈qE7 x r Rs j,y∈qDv x r Rs n
 |0,j,h,_,_=>absurd h (Nat.not_lt_zero j)
 |n+1,j,h,y,hy=>by
  rw [qDv]
  by_cases e:j=n
  ·subst e;exact List.mem_append.2 (.inr hy)
  ·exact List.mem_append.2 (.inl (pts_sub (by omega) y hy))
theorem lie{N P Q:Int}{x:List Rat}{r:Rat}{bits:Nat}(h:TkIn N P Q x r){Rs:Nat->List I2}(hR:∀j,j+1<(qAc x r).length->qAj x r j≠[]->PcR x r bits j (Rs j)){lo hi:Rat}(hlo:lo∈x)(b1:∀v∈x,lo≤v)(b2:∀v∈x,v≤hi):∃y∈qDv x r Rs ((qAc x r).length-1),lo≤y.2∧y.1≤hi:=by
 have rp:=h.rp
 have r2:r*r≠0:=by have:=Rat.mul_pos rp rp;grind
 have s1:1/(r*r)*(r*r)=1:=qAm r2
 have s0:1/(r*r)≠0:=fun k=>by rw [k,Rat.zero_mul] at s1;exact absurd s1 (by decide)
 obtain ⟨w,w1,w2,w3⟩:=hit_ex (sq:=1/(r*r)) rp hlo b1
 have wh:=b2 w w1
 have B:=qBx x r
 have pc:∀j,j+1<(qAc x r).length->∀t,(qAc x r).getD j 0≤t->t≤(qAc x r).getD (j+1) 0->sumV (actF x r t) (1/(r*r)) t=qAb (qAj x r j) t:=fun j hj t t1 t2=>by
  rw [qBe hj] at t2
  rw [qBe (show j<_ by omega)] at t1
  have:=B.piece rp s1 hj t1 t2
  rw [this]
  unfold qAj mid2
  rw [qBe hj,qBe (show j<_ by omega)]
 have pne:∀j,actF x r (mid2 ((qAc x r).getD j 0,(qAc x r).getD (j+1) 0))≠[]->qAj x r j≠[]:=fun j hj=>(eqP_ne hj s0).2
 rcases w3 with ⟨j,j1,j2,j3,j4⟩|⟨j,u,v,j1,j2,j3,j4,j5,j6,j7,j8⟩|⟨j,t,j1,j2,j3,j4,j5,j6⟩
 ·have hlt:=asc_lt B.asc (show j+1<(qAc x r).length by omega)
  have an:=w2 _ j2 j3
  have hp:qAj x r j≠[]:=by
   refine pne j (act_ne.2 ?_)
   obtain ⟨v,v1,v2,v3⟩:=act_ne.1 an
   have n1:=nbr B.asc (show j+1<(qAc x r).length by omega) (B.lo v v1)
   rw [←qBe (show j+1<_ by omega),←qBe (show j<_ by omega)] at n1
   refine ⟨v,v1,?_,?_⟩<;>(unfold mid2;dsimp only;rcases n1 with g|g<;>grind)
  have ez:=pc j (by omega) _ (Rat.le_of_lt hlt) Rat.le_refl
  refine ⟨((qAc x r).getD (j+1) 0,(qAc x r).getD (j+1) 0),pts_sub (j:=j) (by omega) _ ?_,j2,Rat.le_trans j3 wh⟩
  unfold qE7
  rw [if_neg hp]
  refine List.mem_append.2 (.inr ?_)
  unfold qNy
  rw [if_pos ⟨j1,Bool.eq_false_iff.2 fun e=>an (flat_no e),by rw [←ez];exact j4⟩]
  exact List.mem_singleton.2 rfl
 ·have e1:=pc j j1 u j2 (by grind)
  have e2:=pc j j1 v (by grind) j4
  dsimp only at j7 j8
  rw [e1] at j7
  rw [e2] at j8
  have hp:qAj x r j≠[]:=fun e=>by rw [e] at j7;exact Rat.lt_irrefl j7
  have hk:=h.wok j1 hp
  obtain ⟨g1,g2,g3⟩:=wP2_sign hp j2 j3 j4 j7 j8
  have ga:(qAc x r).getD j 0∈qAc x r:=by rw [qBe (show j<_ by omega)];exact List.getElem_mem _
  have gb:(qAc x r).getD (j+1) 0∈qAc x r:=by rw [qBe j1];exact List.getElem_mem _
  have ba:=(h.ends _ ga).2
  have bb:=(h.ends _ gb).2
  have c:=sign_cnt qDx hk.tr hk.ne (u:=u) (v:=v) (by grind) (by grind) j3 g1 g2 g3
  rw [←qTg hk.tr] at c
  obtain ⟨i,i1,i2,i3⟩:=meets_way h j1 hp (hR j j1 hp) j2 j3 j4 c
  refine ⟨(Rs j).getD i (0,0),pts_sub (j:=j) (by omega) _ ?_,by grind,by grind⟩
  unfold qE7
  rw [if_neg hp]
  refine List.mem_append.2 (.inl ?_)
  rw [List.getD_eq_getElem?_getD,List.getElem?_eq_getElem i1];exact List.getElem_mem _
 ·have an:=w2 _ j4 j5
  have hp:qAj x r j≠[]:=by
   refine pne j (act_ne.2 ?_)
   obtain ⟨v,v1,v2,v3⟩:=act_ne.1 an
   have n1:=nbr B.asc j1 (B.lo v v1)
   have n2:=nbr B.asc j1 (B.hi v v1)
   rw [←qBe (show j+1<_ by omega),←qBe (show j<_ by omega)] at n1 n2
   refine ⟨v,v1,?_,?_⟩<;>(unfold mid2;dsimp only;rcases n1 with g|g<;>rcases n2 with g2|g2<;>grind)
  have e1:=pc j j1 t (Rat.le_of_lt j2) (Rat.le_of_lt j3)
  dsimp only at j6
  rw [e1] at j6
  obtain ⟨i,k,hev⟩:=wP2_ev hp
  have z:qAb (wP2 x r j) t=0:=by
   rw [hev t] at j6
   rcases Rat.mul_eq_zero.1 j6 with g|g
   ·exact absurd g (Rat.ne_of_gt ((qPi i).1 (by grind)))
   ·rcases Rat.mul_eq_zero.1 g with g|g
    ·exact absurd g ((qPi k).2.1 (by grind))
    ·exact g
  obtain ⟨i,i1,i2,i3⟩:=meets_at h j1 hp (hR j j1 hp) j2 j3 z
  refine ⟨(Rs j).getD i (0,0),pts_sub (j:=j) (by omega) _ ?_,by grind,by grind⟩
  unfold qE7
  rw [if_neg hp]
  refine List.mem_append.2 (.inl ?_)
  rw [List.getD_eq_getElem?_getD,List.getElem?_eq_getElem i1];exact List.getElem_mem _
theorem num_Z(v:Int):∃A:Int,A.natAbs≤360∧numQ v*((12:Int):Rat)=(A:Rat):=by
 obtain ⟨A,h1,h2⟩:=num_12 v
 refine ⟨A,h1,?_⟩
 rw [h2,Rat.divInt_eq_div]
 exact qAm (by decide)
theorem rad_Z(v:Int):∃P:Int,6≤P∧P≤366∧radQ v*((12:Int):Rat)=(P:Rat):=by
 obtain ⟨A,h1,h2⟩:=num_Z v
 have c12:((12:Int):Rat)=12:=rfl
 have c6:((6:Int):Rat)=6:=rfl
 have ch:Rat.divInt 1 2*12=6:=by decide+kernel
 rw [c12] at h2 ⊢
 unfold radQ
 by_cases h:numQ v<0
 ·refine ⟨-A+6,?_,?_,?_⟩
  ·have:(A:Rat)<((0:Int):Rat):=by rw [←h2];have c0:((0:Int):Rat)=0:=rfl;rw [c0];grind
   have:=Rat.intCast_lt_intCast.1 this
   omega
  ·omega
  ·rw [show absQ (numQ v)= -numQ v by unfold absQ;rw [if_pos h],Rat.intCast_add,Rat.intCast_neg,c6]
   grind
 ·refine ⟨A+6,?_,?_,?_⟩
  ·have:((0:Int):Rat)≤(A:Rat):=by rw [←h2];have c0:((0:Int):Rat)=0:=rfl;rw [c0];grind
   have:=Rat.intCast_le_intCast.1 this
   omega
  ·omega
  ·rw [show absQ (numQ v)=numQ v by unfold absQ;rw [if_neg h],Rat.intCast_add,c6]
   grind
theorem rad_bd(v:Int):radQ v≤31:=by
 have:=numQ_bd v
 have h:Rat.divInt 1 2≤1:=by decide+kernel
 unfold radQ absQ
 split<;>grind
theorem made_tk(raw:List Int)(v:Int)(h0:(raw.take 5).map numQ≠[]):∃P,TkIn 12 P 12 ((raw.take 5).map numQ) (radQ v):=by
 obtain ⟨P,p1,p2,p3⟩:=rad_Z v
 refine ⟨P,h0,by rw [List.length_map,List.length_take];omega,by decide,by decide,by omega,by omega,by decide,by decide,fun w hw=>?_,p3,fun w hw=>?_,by have:=rad_bd v;grind⟩
 ·obtain ⟨u,_,rfl⟩:=List.mem_map.1 hw
  obtain ⟨A,a1,a2⟩:=num_Z u
  exact ⟨A,by omega,a2⟩
 ·obtain ⟨u,_,rfl⟩:=List.mem_map.1 hw
  have:=numQ_bd u
  constructor<;>grind
theorem ref04_MeetI(X Y:I2)(hX:X.1≤X.2)(hY:Y.1≤Y.2)(oX:okI 150000 X)(oY:okI 150000 Y):Ret Tryz.prog 21 [iQ X,iQ Y] (·=match meetI X Y with|none=>.tup [iD r0 r0,.bool false]|some m=>.tup [iQ m,.bool true]):=by
 have h:=ref04_Meet (rq X.1) (rq X.2) (rq Y.1) (rq Y.2) ((qAs oX.1).up (by decide)) ((qAs oX.2).up (by decide)) ((qAs oY.1).up (by decide)) ((qAs oY.2).up (by decide))
 rw [qAw,qAw,qAw,qAw,qGx hX,qGx hY] at h
 exact h
theorem meet_none{X Y:I2}(h:¬(Y.1≤X.2∧X.1≤Y.2))(hX:X.1≤X.2)(hY:Y.1≤Y.2):meetI X Y=none:=by
 unfold meetI minQ maxQ
 rw [if_pos]
 split<;>split<;>grind
theorem qRc{x:List Rat}{r:Rat}{Rs:Nat->List I2}{y:I2}:∀{n:Nat},y∈qDv x r Rs n->∃j,j<n∧y∈qE7 x r Rs j
 |0,h=>by simp [qDv] at h
 |n+1,h=>by
  rw [qDv] at h
  rcases List.mem_append.1 h with h|h
  ·obtain ⟨j,j1,j2⟩:=qRc h
   exact ⟨j,by omega,j2⟩
  ·exact ⟨n,by omega,h⟩
theorem qM3{x:List Rat}{r:Rat}{Rs:Nat->List I2}{j:Nat}{y:I2}(h:y∈qE7 x r Rs j):qAj x r j≠[]∧((∃i,i<(Rs j).length∧y=(Rs j).getD i (0,0))∨(j+2<(qAc x r).length∧qOz (qCi x r) ((qAc x r).getD (j+1) 0)=false∧qAb (qAj x r j) ((qAc x r).getD (j+1) 0)=0∧y=((qAc x r).getD (j+1) 0,(qAc x r).getD (j+1) 0))):=by
 unfold qE7 at h
 split at h
 ·simp at h
 ·rename_i hp
  refine ⟨hp,?_⟩
  rcases List.mem_append.1 h with h|h
  ·obtain ⟨i,hi,rfl⟩:=List.getElem_of_mem h
   exact .inl ⟨i,hi,by rw [List.getD_eq_getElem?_getD,List.getElem?_eq_getElem hi];rfl⟩
  ·unfold qNy at h
   split at h
   ·rename_i c
    exact .inr ⟨c.1,c.2.1,c.2.2,List.mem_singleton.1 h⟩
   ·simp at h
theorem pts_ok{N P Q:Int}{x:List Rat}{r:Rat}{bits:Nat}(h:TkIn N P Q x r){Rs:Nat->List I2}(hR:∀j,j+1<(qAc x r).length->qAj x r j≠[]->PcR x r bits j (Rs j)):∀y∈qDv x r Rs ((qAc x r).length-1),y.1≤y.2∧okI 150000 y:=fun y hy=>by
 obtain ⟨j,j1,j2⟩:=qRc hy
 obtain ⟨hp,h2⟩:=qM3 j2
 rcases h2 with ⟨i,i1,rfl⟩|⟨k1,k2,k3,rfl⟩
 ·obtain ⟨l,l1,l2,l3⟩:=(hR j (by omega) hp).in_
  have n:=l3 i i1
  exact ⟨n.le,n.ok⟩
 ·have gb:(qAc x r).getD (j+1) 0∈qAc x r:=by rw [qBe (show j+1<_ by omega)];exact List.getElem_mem _
  have o:=(h.ends _ gb).1.mono (show 2≤150000 by decide)
  exact ⟨Rat.le_refl,o,o⟩
theorem pts_len'{x:List Rat}{r:Rat}{Rs:Nat->List I2}(h:∀j,j+1<(qAc x r).length->qAj x r j≠[]->(Rs j).length≤10):∀n,n+1≤(qAc x r).length->(qDv x r Rs n).length≤11*n
 |0,_=>Nat.zero_le _
 |n+1,hn=>by
  have a:=pts_len' h n (by omega)
  have b:(qE7 x r Rs n).length≤11:=by
   unfold qE7
   split
   ·exact Nat.zero_le _
   ·rename_i c
    have:=h n (by omega) c
    rw [List.length_append]
    unfold qNy
    split<;>simp<;>omega
  rw [qDv,List.length_append]
  omega
theorem pts_few{x:List Rat}{r:Rat}(h0:x≠[])(hl:x.length≤5){Rs:Nat->List I2}(h:∀j,j+1<(qAc x r).length->qAj x r j≠[]->(Rs j).length≤10):(qDv x r Rs ((qAc x r).length-1)).length≤99:=by
 have a:=qI7 x r
 have b:=qDw (k:=r) h0
 have:=pts_len' h ((qAc x r).length-1) (by omega)
 omega
def insV(p:List Rat)(a:I2)(f t:Rat):Int:=
 if minQ a.2 t<maxQ a.1 f then 0
 else if maxQ a.1 f<minQ a.2 t then cfn p (maxQ a.1 f) (minQ a.2 t)-(if minQ a.2 t=t∧qAb p (minQ a.2 t)=0 then 1 else 0)+(if f<maxQ a.1 f∧qAb p (maxQ a.1 f)=0 then 1 else 0)
 else if minQ a.2 t=t then 0 else if f<maxQ a.1 f∧qAb p (maxQ a.1 f)=0 then 1 else 0
def edgV(x:List Rat)(r:Rat)(a:I2)(j:Nat):Int:=if 0<j∧(a.1≤(qAc x r).getD j 0∧(qAc x r).getD j 0≤a.2)∧actF x r ((qAc x r).getD j 0)≠[]∧sumV (actF x r ((qAc x r).getD j 0)) (1/(r*r)) ((qAc x r).getD j 0)=0 then 1 else 0
def pinV(x:List Rat)(r:Rat)(a:I2)(j:Nat):Int:=if actF x r (mid2 ((qAc x r).getD j 0,(qAc x r).getD (j+1) 0))≠[] then insV (qAj x r j) a ((qAc x r).getD j 0) ((qAc x r).getD (j+1) 0) else 0
def winV(x:List Rat)(r:Rat)(a:I2):Nat->Int
 |0=>0
 |j+1=>winV x r a j+pinV x r a j+edgV x r a j
theorem ins_out{p:List Rat}{a:I2}{f t:Rat}(h:a.2<f∨t<a.1)(ha:a.1≤a.2)(hf:f<t):insV p a f t=0:=by
 unfold insV
 rw [if_pos]
 unfold minQ maxQ
 split<;>split<;>grind
theorem ins_left{p:List Rat}{f t:Rat}(hf:f<t):insV p (t,t) f t=0:=by
 have e1:minQ t t=t:=by unfold minQ;split<;>rfl
 have e2:maxQ t f=t:=by unfold maxQ;split<;>grind
 unfold insV
 simp only [e1,e2]
 rw [if_neg Rat.lt_irrefl,if_neg Rat.lt_irrefl,if_pos trivial]
theorem ins_right{p:List Rat}{f t:Rat}(hf:f<t):insV p (f,f) f t=0:=by
 have e1:minQ f t=f:=by unfold minQ;split<;>grind
 have e2:maxQ f f=f:=by unfold maxQ;split<;>rfl
 unfold insV
 simp only [e1,e2]
 rw [if_neg Rat.lt_irrefl,if_neg Rat.lt_irrefl,if_neg (by grind),if_neg (fun h=>Rat.lt_irrefl h.1)]
theorem ins_in{p:List Rat}{a:I2}{f t:Rat}(h1:f<a.1)(h2:a.2<t)(ha:a.1≤a.2):insV p a f t=(if a.1<a.2 then cfn p a.1 a.2 else 0)+(if qAb p a.1=0 then 1 else 0):=by
 have e1:minQ a.2 t=a.2:=by unfold minQ;split<;>grind
 have e2:maxQ a.1 f=a.1:=by unfold maxQ;split<;>grind
 unfold insV
 rw [e1,e2,if_neg (Rat.not_lt.2 ha)]
 by_cases c:a.1<a.2
 ·rw [if_pos c,if_pos c,if_neg (by grind)]
  by_cases z:qAb p a.1=0
  ·rw [if_pos z,if_pos ⟨h1,z⟩];omega
  ·rw [if_neg z,if_neg (fun k=>z k.2)];omega
 ·rw [if_neg c,if_neg c,if_neg (by grind)]
  by_cases z:qAb p a.1=0
  ·rw [if_pos z,if_pos ⟨h1,z⟩];rfl
  ·rw [if_neg z,if_neg (fun k=>z k.2)];rfl
theorem ins_all{p:List Rat}{a:I2}{f t:Rat}(h1:a.1≤f)(h2:t≤a.2)(hf:f<t):insV p a f t=cfn p f t-(if qAb p t=0 then 1 else 0):=by
 have e1:minQ a.2 t=t:=by unfold minQ;split<;>grind
 have e2:maxQ a.1 f=f:=by unfold maxQ;split<;>grind
 unfold insV
 rw [e1,e2,if_neg (by grind),if_pos hf,if_neg (c:=f<f∧qAb p f=0) (fun h=>Rat.lt_irrefl h.1)]
 by_cases z:qAb p t=0
 ·rw [if_pos z,if_pos ⟨rfl,z⟩];omega
 ·rw [if_neg z,if_neg (fun k=>z k.2)];omega
theorem cnt_left{x:List Rat}{r:Rat}{bits j:Nat}{R:List I2}{N P Q:Int}(h:TkIn N P Q x r)(hj:j+1<(qAc x r).length)(hp:qAj x r j≠[])(hR:PcR x r bits j R):∀i,i≤R.length->(qAc x r).getD j 0≤qEi ((qAc x r).getD j 0) R i∧(i:Int)≤cfn (wP2 x r j) ((qAc x r).getD j 0) (qEi ((qAc x r).getD j 0) R i):=by
 have hk:=h.wok hj hp
 obtain ⟨l,l1,l2,l3⟩:=hR.in_
 have hd:=hk.deep
 intro i
 induction i with
 |zero=>exact fun _=>⟨Rat.le_refl,by rw [show qEi ((qAc x r).getD j 0) R 0=(qAc x r).getD j 0 from rfl,hd.none _ _ Rat.lt_irrefl];decide⟩
 |succ i ih=>
  intro hi
  obtain ⟨g1,g2⟩:=ih (by omega)
  have n:=l3 i (by omega)
  have o:=qRn hk n n.last
  have e:qEi ((qAc x r).getD j 0) R (i+1)=(R.getD i (0,0)).2:=rfl
  have lt:qEi ((qAc x r).getD j 0) R i≤(R.getD i (0,0)).2:=by have:=n.last;have:=n.le;grind
  have ad:=qFt hd.toCnt g1 lt
  rw [e]
  exact ⟨by grind,by omega⟩
theorem cnt_right{x:List Rat}{r:Rat}{bits j:Nat}{R:List I2}{N P Q:Int}(h:TkIn N P Q x r)(hj:j+1<(qAc x r).length)(hp:qAj x r j≠[])(hR:PcR x r bits j R):∀k m,m+k=R.length->qEi ((qAc x r).getD j 0) R m≤(qAc x r).getD (j+1) 0∧(k:Int)≤cfn (wP2 x r j) (qEi ((qAc x r).getD j 0) R m) ((qAc x r).getD (j+1) 0):=by
 have hk:=h.wok hj hp
 have hab:=asc_lt (qBx x r).1 hj
 obtain ⟨l,l1,l2,l3⟩:=hR.in_
 have hd:=hk.deep
 intro k
 induction k with
 |zero=>
  intro m hm
  refine ⟨?_,qUw hd.toCnt _ _⟩
  cases m with
  |zero=>exact Rat.le_of_lt hab
  |succ m=>exact Rat.le_of_lt (l3 m (by omega)).to
 |succ k ih=>
  intro m hm
  obtain ⟨g1,g2⟩:=ih (m+1) (by omega)
  have n:=l3 m (by omega)
  have o:=qRn hk n n.last
  have e:qEi ((qAc x r).getD j 0) R (m+1)=(R.getD m (0,0)).2:=rfl
  rw [e] at g1 g2
  have lt:qEi ((qAc x r).getD j 0) R m≤(R.getD m (0,0)).2:=by have:=n.last;have:=n.le;grind
  have ad:=qFt hd.toCnt lt g1
  exact ⟨Rat.le_trans lt g1,by omega⟩
theorem no_root{x:List Rat}{r:Rat}{bits j:Nat}{R:List I2}{N P Q:Int}(h:TkIn N P Q x r)(hj:j+1<(qAc x r).length)(hp:qAj x r j≠[])(hR:PcR x r bits j R){i:Nat}(hi:i<R.length)(lt:(R.getD i (0,0)).1<(R.getD i (0,0)).2):qAb (wP2 x r j) (R.getD i (0,0)).1≠0∧cfn (wP2 x r j) (R.getD i (0,0)).1 (R.getD i (0,0)).2=1:=by
 have hk:=h.wok hj hp
 have hl:=hR.len
 obtain ⟨a1,a2⟩:=cnt_left h hj hp hR i (by omega)
 obtain ⟨b1,b2⟩:=cnt_right h hj hp hR (R.length-(i+1)) (i+1) (by omega)
 obtain ⟨l,l1,l2,l3⟩:=hR.in_
 have n:=l3 i hi
 have hd:=hk.deep
 have e:qEi ((qAc x r).getD j 0) R (i+1)=(R.getD i (0,0)).2:=rfl
 rw [e] at b1 b2
 have la:=n.last
 have one:cfn (wP2 x r j) (R.getD i (0,0)).1 (R.getD i (0,0)).2=1:=by
  rcases n.root with ⟨k,_⟩|⟨_,k⟩
  ·rw [k] at lt;exact absurd lt Rat.lt_irrefl
  ·exact k
 refine ⟨fun z=>?_,one⟩
 have r1:=qJa qDx hk.tr hk.ne (s:=(R.getD i (0,0)).1) la Rat.le_refl z
 rw [←qTg hk.tr] at r1
 have t1:=qFt hd.toCnt a1 (show qEi ((qAc x r).getD j 0) R i≤(qAc x r).getD (j+1) 0 by grind)
 have t2:=qFt hd.toCnt (Rat.le_of_lt la) (show (R.getD i (0,0)).1≤(qAc x r).getD (j+1) 0 by grind)
 have t3:=qFt hd.toCnt (Rat.le_of_lt lt) b1
 omega
theorem wP2_zero{x:List Rat}{r:Rat}{j:Nat}(hp:qAj x r j≠[]){u:Rat}(h1:(qAc x r).getD j 0<u)(h2:u<(qAc x r).getD (j+1) 0):qAb (qAj x r j) u=0↔qAb (wP2 x r j) u=0:=by
 obtain ⟨i,k,h⟩:=wP2_ev hp
 rw [h u]
 constructor
 ·intro e
  rcases Rat.mul_eq_zero.1 e with g|g
  ·exact absurd g (Rat.ne_of_gt ((qPi i).1 (by grind)))
  ·rcases Rat.mul_eq_zero.1 g with g|g
   ·exact absurd g ((qPi k).2.1 (by grind))
   ·exact g
 ·intro e
  rw [e,Rat.mul_zero,Rat.mul_zero]
theorem wP2_cnt{x:List Rat}{r:Rat}{j:Nat}{N P Q:Int}(h:TkIn N P Q x r)(hj:j+1<(qAc x r).length)(hp:qAj x r j≠[]){u v:Rat}(h1:(qAc x r).getD j 0<u)(h2:v<(qAc x r).getD (j+1) 0):cfn (qAj x r j) u v=cfn (wP2 x r j) u v:=by
 have hk:=h.wok hj hp
 have lp:(qAj x r j).length≤6:=qHn _ _
 have tp:Tr (qAj x r j):=qLu _ _
 rw [qTg hk.tr,qTg tp]
 unfold wP2
 obtain ⟨s1,s2,s3,s4,i,s5⟩:=qFd 6 (s:=(qAc x r).getD j 0) tp hp lp
 have c1:=wo_cnt qDx (s:=(qAc x r).getD j 0) (n:=6) tp hp lp u v
 rw [if_neg (fun k=>by have:=k.2.1;grind)] at c1
 have c2:=wo_cnt qDx (s:=(qAc x r).getD (j+1) 0) (n:=6) s1 s2 (by omega) u v
 rw [if_neg (fun k=>by have:=k.2.2;grind)] at c2
 omega
theorem act_mid{x:List Rat}{r:Rat}{j:Nat}(hj:j+1<(qAc x r).length){t:Rat}(h1:(qAc x r).getD j 0<t)(h2:t≤(qAc x r).getD (j+1) 0)(ha:actF x r t≠[]):actF x r (mid2 ((qAc x r).getD j 0,(qAc x r).getD (j+1) 0))≠[]:=by
 have B:=qBx x r
 obtain ⟨v,v1,v2,v3⟩:=act_ne.1 ha
 have n1:=nbr B.asc hj (B.lo v v1)
 have n2:=nbr B.asc hj (B.hi v v1)
 rw [←qBe (show j+1<_ by omega),←qBe (show j<_ by omega)] at n1 n2
 refine act_ne.2 ⟨v,v1,?_,?_⟩<;>(unfold mid2;dsimp only;rcases n1 with g|g<;>rcases n2 with g2|g2<;>grind)
theorem qHh{x:List Rat}{r:Rat}(hr:0<r){j:Nat}:actF x r (mid2 ((qAc x r).getD j 0,(qAc x r).getD (j+1) 0))≠[]↔qAj x r j≠[]:=by
 have r2:r*r≠0:=by have:=Rat.mul_pos hr hr;grind
 have s1:1/(r*r)*(r*r)=1:=qAm r2
 have s0:1/(r*r)≠0:=fun k=>by rw [k,Rat.zero_mul] at s1;exact absurd s1 (by decide)
 constructor
 ·intro h;exact (eqP_ne h s0).2
 ·intro h e
  apply h
  unfold qAj
  rw [e];rfl
theorem qTo{x:List Rat}{r:Rat}(hr:0<r){j:Nat}(hj:j+1<(qAc x r).length){t:Rat}(t1:(qAc x r).getD j 0≤t)(t2:t≤(qAc x r).getD (j+1) 0):sumV (actF x r t) (1/(r*r)) t=qAb (qAj x r j) t:=by
 have r2:r*r≠0:=by have:=Rat.mul_pos hr hr;grind
 have s1:1/(r*r)*(r*r)=1:=qAm r2
 rw [qBe hj] at t2
 rw [qBe (show j<_ by omega)] at t1
 have:=(qBx x r).piece hr s1 hj t1 t2
 rw [this]
 unfold qAj mid2
 rw [qBe hj,qBe (show j<_ by omega)]
theorem qQh{x:List Rat}{r t:Rat}(hr:0<r)(x0:x≠[])(h1:(qAc x r).getD 0 0<t)(h2:t<(qAc x r).getD ((qAc x r).length-1) 0)(ha:actF x r t=[]):qOz (qCi x r) t=true:=by
 have B:=qBx x r
 have q0:=qDw (k:=r) x0
 have side:∀v∈x,v+r≤t∨t≤v-r:=fun v hv=>by
  refine Classical.byContradiction fun k=>?_
  have k1:¬v+r≤t:=fun e=>k (.inl e)
  have k2:¬t≤v-r:=fun e=>k (.inr e)
  exact act_ne.2 ⟨v,hv,by grind,by grind⟩ ha
 have key:∀y∈qDq x r,∃v∈x,y=v-r∨y=v+r:=by
  intro y
  clear side ha h1 h2 B q0 x0
  induction x with
  |nil=>intro h;simp [qDq] at h
  |cons v x ih=>
   intro h
   simp only [qDq,List.mem_cons] at h
   rcases h with e|e|e
   ·exact ⟨v,List.mem_cons_self,.inl e⟩
   ·exact ⟨v,List.mem_cons_self,.inr e⟩
   ·obtain ⟨w,w1,w2⟩:=ih e
    exact ⟨w,List.mem_cons_of_mem _ w1,w2⟩
 have lo:∃v∈x,v+r≤t:=by
  obtain ⟨v,hv,e⟩:=key _ (endsQ_mem.1 (show (qAc x r).getD 0 0∈qAc x r by rw [qBe q0];exact List.getElem_mem _))
  refine ⟨v,hv,?_⟩
  rcases side v hv with g|g
  ·exact g
  ·rcases e with e|e<;>grind
 have hi:∃v∈x,t≤v-r:=by
  obtain ⟨v,hv,e⟩:=key _ (endsQ_mem.1 (show (qAc x r).getD ((qAc x r).length-1) 0∈qAc x r by rw [qBe (show (qAc x r).length-1<_ by omega)];exact List.getElem_mem _))
  refine ⟨v,hv,?_⟩
  rcases side v hv with g|g
  ·rcases e with e|e<;>grind
  ·exact g
 have main:∀(l:List Rat) (a:Rat),(a::l).Pairwise (·< ·)->(∀v∈a::l,v+r≤t∨t≤v-r)->a+r≤t->(∃v∈a::l,t≤v-r)->qOz (qEp r a l) t=true:=by
  intro l
  induction l with
  |nil=>
   intro a _ _ g ⟨v,hv,k⟩
   rcases List.mem_cons.1 hv with rfl|hv
   ·grind
   ·simp at hv
  |cons b l ih=>
   intro a hp hs g ⟨v,hv,k⟩
   obtain ⟨p1,p2⟩:=List.pairwise_cons.1 hp
   have hb:=p1 b List.mem_cons_self
   rcases hs b (by simp) with c|c
   ·have:=ih b p2 (fun u hu=>hs u (List.mem_cons_of_mem _ hu)) c (by
     rcases List.mem_cons.1 hv with rfl|hv
     ·grind
     ·exact ⟨v,hv,k⟩)
    unfold qEp
    split
    ·show (qBo _ t||qOz (qEp r b l) t)=true
     rw [this,Bool.or_true]
    ·exact this
   ·have cc:a+r≤b-r:=Rat.le_trans g c
    unfold qEp
    rw [if_pos cc]
    show (qBo (a+r,b-r) t||_)=true
    have:qBo (a+r,b-r) t=true:=by
     unfold qBo
     rw [decide_eq_true (show (a+r,b-r).1≤t from g),decide_eq_true (show t≤(a+r,b-r).2 from c)];rfl
    rw [this,Bool.true_or]
 have as_:=qN2 (qL8 x)
 have mm:∀v,v∈cmpL (srt x)↔v∈x:=fun v=>⟨fun h=>(qD3 x).subset (cmpL_mem.1 h),fun h=>cmpL_mem.2 ((qD3 x).symm.subset h)⟩
 unfold qCi
 match hl:cmpL (srt x),as_,mm with
 |[],_,mm=>
  obtain ⟨v,hv,_⟩:=lo
  have:=(mm v).2 hv
  simp at this
 |b::l,as_,mm=>
  obtain ⟨v,hv,k⟩:=lo
  obtain ⟨w,hw',k2⟩:=hi
  refine main l b as_ (fun u hu=>side u ((mm u).1 hu)) ?_ ⟨w,(mm w).2 hw',k2⟩
  have:=(mm v).2 hv
  rcases List.mem_cons.1 this with rfl|h
  ·exact k
  ·have:=(List.pairwise_cons.1 as_).1 v h
   grind
theorem qCz{x:List Rat}{r:Rat}{i j:Nat}(hij:i<j)(hj:j<(qAc x r).length):(qAc x r).getD i 0<(qAc x r).getD j 0:=asc_lt' (qBx x r).asc hij hj
theorem qIi{x:List Rat}{r:Rat}{i j:Nat}(hij:i≤j)(hj:j<(qAc x r).length):(qAc x r).getD i 0≤(qAc x r).getD j 0:=by
 rcases Nat.lt_or_eq_of_le hij with h|h
 ·exact Rat.le_of_lt (qCz h hj)
 ·rw [h];exact Rat.le_refl
theorem all_cnt{N P Q:Int}{x:List Rat}{r:Rat}{bits:Nat}(h:TkIn N P Q x r){Rs:Nat->List I2}(hR:∀j,j+1<(qAc x r).length->qAj x r j≠[]->PcR x r bits j (Rs j)):∀n,n+1≤(qAc x r).length->((qDv x r Rs n).length:Int)=winV x r ((qAc x r).getD 0 0,(qAc x r).getD ((qAc x r).length-1) 0) n+(if n+1<(qAc x r).length then edgV x r ((qAc x r).getD 0 0,(qAc x r).getD ((qAc x r).length-1) 0) n else 0):=by
 have rp:=h.rp
 intro n
 induction n with
 |zero=>
  intro hn
  have e:edgV x r ((qAc x r).getD 0 0,(qAc x r).getD ((qAc x r).length-1) 0) 0=0:=by
   unfold edgV
   rw [if_neg (fun k=>Nat.lt_irrefl 0 k.1)]
  rw [e]
  unfold winV qDv
  split<;>rfl
 |succ j ih=>
  intro hn
  have hj:j+1<(qAc x r).length:=by omega
  have hab:=qCz (x:=x) (r:=r) (Nat.lt_succ_self j) hj
  have ih:=ih (by omega)
  rw [if_pos hj] at ih
  rw [qDv,List.length_append,Int.natCast_add,ih,winV]
  have key:((qE7 x r Rs j).length:Int)=pinV x r ((qAc x r).getD 0 0,(qAc x r).getD ((qAc x r).length-1) 0) j+(if j+1+1<(qAc x r).length then edgV x r ((qAc x r).getD 0 0,(qAc x r).getD ((qAc x r).length-1) 0) (j+1) else 0):=by
   unfold qE7 pinV
   by_cases hp:qAj x r j=[]
   ·have ma:¬actF x r (mid2 ((qAc x r).getD j 0,(qAc x r).getD (j+1) 0))≠[]:=fun k=>(qHh rp).1 k hp
    rw [if_pos hp,if_neg ma]
    have:edgV x r ((qAc x r).getD 0 0,(qAc x r).getD ((qAc x r).length-1) 0) (j+1)=0:=by
     unfold edgV
     rw [if_neg fun k=>ma (act_mid hj hab Rat.le_refl k.2.2.1)]
    rw [this]
    split<;>rfl
   ·rw [if_neg hp,if_pos ((qHh rp).2 hp),List.length_append,Int.natCast_add,(hR j hj hp).len,cnt_piece h hj hp,ins_all (qIi (Nat.zero_le _) (by omega)) (qIi (by omega) (by omega)) hab,qTg (show Tr (qAj x r j) from qLu _ _)]
    congr 1
    unfold qNy
    by_cases c:j+2<(qAc x r).length
    ·rw [if_pos (show j+1+1<_ from c)]
     unfold edgV
     have e:=qTo (x:=x) rp hj (Rat.le_of_lt hab) Rat.le_refl
     have f1:qOz (qCi x r) ((qAc x r).getD (j+1) 0)=false↔actF x r ((qAc x r).getD (j+1) 0)≠[]:=by
      constructor
      ·intro k e2
       have:=qQh rp h.ne (qCz (Nat.succ_pos j) hj) (qCz (by omega) (by omega)) e2
       rw [this] at k;cases k
      ·intro k
       exact Bool.eq_false_iff.2 fun e2=>k (flat_no e2)
     by_cases z:qOz (qCi x r) ((qAc x r).getD (j+1) 0)=false∧qAb (qAj x r j) ((qAc x r).getD (j+1) 0)=0
     ·rw [if_pos ⟨c,z.1,z.2⟩,if_pos ⟨Nat.succ_pos j,⟨qIi (Nat.zero_le _) (by omega),qIi (by omega) (by omega)⟩,f1.1 z.1,by rw [e];exact z.2⟩];rfl
     ·rw [if_neg (fun k=>z ⟨k.2.1,k.2.2⟩),if_neg (fun k=>z ⟨f1.2 k.2.2.1,by rw [←e];exact k.2.2.2⟩)];rfl
    ·rw [if_neg (fun k=>c k.1),if_neg (show ¬j+1+1<_ from c)];rfl
  rw [key]
  omega
theorem win_one{x:List Rat}{r:Rat}{a:I2}{j0:Nat}(h1:pinV x r a j0+edgV x r a j0=1):∀n,(∀j,j<n->j≠j0->pinV x r a j+edgV x r a j=0)->winV x r a n=if j0<n then 1 else 0
 |0,_=>rfl
 |n+1,h=>by
  have ih:=win_one h1 n fun j hj hn=>h j (by omega) hn
  rw [winV,ih]
  by_cases e:n=j0
  ·subst e
   rw [if_neg (Nat.lt_irrefl _),if_pos (Nat.lt_succ_self _)]
   omega
  ·have:=h n (Nat.lt_succ_self n) e
   by_cases c:j0<n
   ·rw [if_pos c,if_pos (by omega)];omega
   ·rw [if_neg c,if_neg (by omega)];omega
theorem pin_out{x:List Rat}{r:Rat}{a:I2}{j:Nat}(hj:j+1<(qAc x r).length)(ha:a.1≤a.2)(h:a.2<(qAc x r).getD j 0∨(qAc x r).getD (j+1) 0<a.1):pinV x r a j=0:=by
 unfold pinV
 split
 ·exact ins_out h ha (qCz (Nat.lt_succ_self j) hj)
 ·rfl
theorem qSd{x:List Rat}{r:Rat}{a:I2}{j:Nat}(h:a.2<(qAc x r).getD j 0∨(qAc x r).getD j 0<a.1):edgV x r a j=0:=by
 unfold edgV
 rw [if_neg]
 rintro ⟨_,⟨k1,k2⟩,_⟩
 rcases h with h|h<;>grind
theorem pts_one{N P Q:Int}{x:List Rat}{r:Rat}{bits:Nat}(h:TkIn N P Q x r){Rs:Nat->List I2}(hR:∀j,j+1<(qAc x r).length->qAj x r j≠[]->PcR x r bits j (Rs j)):∀y∈qDv x r Rs ((qAc x r).length-1),winV x r y ((qAc x r).length-1)=1:=fun y hy=>by
 have rp:=h.rp
 obtain ⟨j,j1,j2⟩:=qRc hy
 obtain ⟨hp,h2⟩:=qM3 j2
 have hj:j+1<(qAc x r).length:=by omega
 have hab:=qCz (x:=x) (r:=r) (Nat.lt_succ_self j) hj
 rcases h2 with ⟨i,i1,rfl⟩|⟨k1,k2,k3,rfl⟩
 ·have pr:=hR j hj hp
  obtain ⟨l,l1,l2,l3⟩:=pr.in_
  have n:=l3 i i1
  have first:(qAc x r).getD j 0<((Rs j).getD i (0,0)).1:=by
   have:=(cnt_left h hj hp pr i (by omega)).1
   have:=n.last
   grind
  have one:=fun lt=>no_root h hj hp pr i1 lt
  have rt:=n.root
  have le:=n.le
  have to:=n.to
  clear n l3 l2 l1 hy j2 pr
  generalize (Rs j).getD i (0,0)=y at *
  rw [win_one (j0:=j),if_pos j1]
  ·rw [qSd (.inr first),Int.add_zero]
   unfold pinV
   rw [if_pos ((qHh rp).2 hp),ins_in first to le]
   by_cases c:y.1<y.2
   ·obtain ⟨o1,o2⟩:=one c
    rw [if_pos c,wP2_cnt h hj hp first to,o2,if_neg (fun e=>o1 ((wP2_zero hp first (by grind)).1 e))];rfl
   ·rcases rt with ⟨e1,e2⟩|⟨e1,_⟩
    ·rw [if_neg c,if_pos ((wP2_zero hp first (by grind)).2 e2)];rfl
    ·exact absurd e1 c
  ·intro i hi hne
   rcases Nat.lt_or_gt_of_ne hne with g|g
   ·have e1:=qIi (x:=x) (r:=r) (show i+1≤j by omega) (by omega)
    have e2:=qIi (x:=x) (r:=r) (show i≤j by omega) (by omega)
    rw [pin_out (by omega) le (.inr (by grind)),qSd (.inr (by grind))];rfl
   ·have e1:=qIi (x:=x) (r:=r) (show j+1≤i by omega) (by omega)
    rw [pin_out (by omega) le (.inl (by grind)),qSd (.inl (by grind))];rfl
 ·have an:actF x r ((qAc x r).getD (j+1) 0)≠[]:=fun e2=>by
   have:=qQh rp h.ne (qCz (Nat.succ_pos j) hj) (qCz (by omega) (by omega)) e2
   rw [this] at k2;cases k2
  have ez:=qTo (x:=x) rp hj (Rat.le_of_lt hab) Rat.le_refl
  have hab2:=qCz (x:=x) (r:=r) (Nat.lt_succ_self (j+1)) k1
  rw [win_one (j0:=j+1),if_pos (by omega)]
  ·have e1:pinV x r ((qAc x r).getD (j+1) 0,(qAc x r).getD (j+1) 0) (j+1)=0:=by
    unfold pinV
    split
    ·exact ins_right hab2
    ·rfl
   rw [e1]
   unfold edgV
   rw [if_pos ⟨Nat.succ_pos j,⟨Rat.le_refl,Rat.le_refl⟩,an,by rw [ez];exact k3⟩];rfl
  ·intro i hi hne
   rcases Nat.lt_or_gt_of_ne hne with g|g
   ·have e2:=qCz (x:=x) (r:=r) (show i<j+1 by omega) (by omega)
    rw [qSd (.inr e2)]
    by_cases e:i=j
    ·subst e
     unfold pinV
     split
     ·rw [ins_left hab];rfl
     ·rfl
    ·have e1:=qCz (x:=x) (r:=r) (show i+1<j+1 by omega) (by omega)
     rw [pin_out (by omega) Rat.le_refl (.inr e1)];rfl
   ·have e1:=qCz (x:=x) (r:=r) (show j+1<i by omega) (by omega)
    rw [pin_out (by omega) Rat.le_refl (.inl e1),qSd (.inl e1)];rfl
theorem nrw_asc{W:List Rat}{a b w:Rat}{l R:List I2}(h:∀i,i<R.length->Nrw W (qEi a R i) b w (l.getD i (0,0)) (R.getD i (0,0))):R.Pairwise (fun y z=>y.2<z.1)∧∀i,i<R.length->a<(R.getD i (0,0)).1:=by
 have key:∀d i,i+d+1<R.length->(R.getD i (0,0)).2<(R.getD (i+d+1) (0,0)).1:=fun d=>by
  induction d with
  |zero=>exact fun i hi=>(h (i+1) hi).last
  |succ d ih=>
   intro i hi
   have a1:=ih i (by omega)
   have a2:=(h (i+d+1) (by omega)).le
   have a3:(R.getD (i+d+1) (0,0)).2<(R.getD (i+(d+1)+1) (0,0)).1:=(h (i+d+1+1) (by omega)).last
   grind
 have g:∀i (hi:i<R.length),R.getD i (0,0)=R[i]:=fun i hi=>by rw [List.getD_eq_getElem?_getD,List.getElem?_eq_getElem hi];rfl
 refine ⟨List.pairwise_iff_getElem.2 fun i j hi hj hij=>?_,fun i hi=>?_⟩
 ·have:=key (j-i-1) i (by omega)
  rw [show i+(j-i-1)+1=j by omega,g i hi,g j hj] at this
  exact this
 ·cases i with
  |zero=>exact (h 0 hi).last
  |succ i=>
   have h0:=(h 0 (by omega)).last
   have l0:=(h 0 (by omega)).le
   have:=key i 0 (by omega)
   rw [show 0+i+1=i+1 by omega] at this
   have e:qEi a R 0=a:=rfl
   rw [e] at h0
   grind
theorem pts_asc{N P Q:Int}{x:List Rat}{r:Rat}{bits:Nat}(h:TkIn N P Q x r){Rs:Nat->List I2}(hR:∀j,j+1<(qAc x r).length->qAj x r j≠[]->PcR x r bits j (Rs j)):∀n,n+1≤(qAc x r).length->(qDv x r Rs n).Pairwise (fun y z=>y.2<z.1)∧∀y∈qDv x r Rs n,y.2≤(qAc x r).getD n 0:=by
 intro n
 induction n with
 |zero=>exact fun _=>⟨List.Pairwise.nil,fun y hy=>by simp [qDv] at hy⟩
 |succ j ih=>
  intro hn
  have hj:j+1<(qAc x r).length:=by omega
  have hab:=qCz (x:=x) (r:=r) (Nat.lt_succ_self j) hj
  obtain ⟨g1,g2⟩:=ih (by omega)
  have key:(qE7 x r Rs j).Pairwise (fun y z=>y.2<z.1)∧∀y∈qE7 x r Rs j,(qAc x r).getD j 0<y.1∧y.2≤(qAc x r).getD (j+1) 0:=by
   unfold qE7
   by_cases hp:qAj x r j=[]
   ·rw [if_pos hp]
    exact ⟨List.Pairwise.nil,fun y hy=>by simp at hy⟩
   ·rw [if_neg hp]
    obtain ⟨l,l1,l2,l3⟩:=(hR j hj hp).in_
    obtain ⟨a1,a2⟩:=nrw_asc l3
    have e:∀y∈qNy x r j,y=((qAc x r).getD (j+1) 0,(qAc x r).getD (j+1) 0):=fun y hy=>by
     unfold qNy at hy
     split at hy
     ·exact List.mem_singleton.1 hy
     ·simp at hy
    have rl:∀y∈Rs j,(qAc x r).getD j 0<y.1∧y.2<(qAc x r).getD (j+1) 0:=fun y hy=>by
     obtain ⟨i,hi,rfl⟩:=List.getElem_of_mem hy
     have ge:(Rs j).getD i (0,0)=(Rs j)[i]:=by rw [List.getD_eq_getElem?_getD,List.getElem?_eq_getElem hi];rfl
     have b1:=a2 i hi
     have b2:=(l3 i hi).to
     rw [ge] at b1 b2
     exact ⟨b1,b2⟩
    refine ⟨List.pairwise_append.2 ⟨a1,?_,fun y hy z hz=>by rw [e z hz];exact (rl y hy).2⟩,fun y hy=>?_⟩
    ·unfold qNy
     split
     ·exact List.pairwise_singleton _ _
     ·exact List.Pairwise.nil
    ·rcases List.mem_append.1 hy with hy|hy
     ·exact ⟨(rl y hy).1,Rat.le_of_lt (rl y hy).2⟩
     ·rw [e y hy];exact ⟨hab,Rat.le_refl⟩
  rw [qDv]
  refine ⟨List.pairwise_append.2 ⟨g1,key.1,fun y hy z hz=>?_⟩,fun y hy=>?_⟩
  ·have:=g2 y hy
   have:=(key.2 z hz).1
   grind
  ·rcases List.mem_append.1 hy with hy|hy
   ·exact Rat.le_trans (g2 y hy) (Rat.le_of_lt hab)
   ·exact (key.2 y hy).2
theorem qR9{r:Rat}:∀(l:List Rat) (a:Rat),(a::l).Pairwise (·< ·)->∀z∈qEp r a l,z.1≤z.2∧∃u v,u∈a::l∧v∈l∧z=(u+r,v-r)∧∀w∈a::l,w≤u∨v≤w
 |[],a,_,z,hz=>by simp [qEp] at hz
 |b::l,a,hp,z,hz=>by
  obtain ⟨p1,p2⟩:=List.pairwise_cons.1 hp
  have hb:=p1 b List.mem_cons_self
  have rest:z∈qEp r b l->z.1≤z.2∧∃u v,u∈a::b::l∧v∈b::l∧z=(u+r,v-r)∧∀w∈a::b::l,w≤u∨v≤w:=fun hz=>by
   obtain ⟨c,u,v,u1,v1,e,k⟩:=qR9 l b p2 z hz
   refine ⟨c,u,v,List.mem_cons_of_mem _ u1,List.mem_cons_of_mem _ v1,e,fun w hw=>?_⟩
   rcases List.mem_cons.1 hw with rfl|hw
   ·left
    rcases List.mem_cons.1 u1 with rfl|u1
    ·exact Rat.le_of_lt hb
    ·have:=p1 u (List.mem_cons_of_mem _ u1)
     exact Rat.le_of_lt this
   ·exact k w hw
  unfold qEp at hz
  split at hz
  ·rename_i c
   rcases List.mem_cons.1 hz with rfl|hz
   ·refine ⟨c,a,b,List.mem_cons_self,List.mem_cons_self,rfl,fun w hw=>?_⟩
    rcases List.mem_cons.1 hw with rfl|hw
    ·exact .inl Rat.le_refl
    ·rcases List.mem_cons.1 hw with rfl|hw
     ·exact .inr Rat.le_refl
     ·exact .inr (Rat.le_of_lt ((List.pairwise_cons.1 p2).1 w hw))
   ·exact rest hz
  ·exact rest hz
theorem flatF_asc{r:Rat}(hr:0<r):∀(l:List Rat) (a:Rat),(a::l).Pairwise (·< ·)->(qEp r a l).Pairwise (fun y z=>y.2<z.1)
 |[],a,_=>List.Pairwise.nil
 |b::l,a,hp=>by
  obtain ⟨p1,p2⟩:=List.pairwise_cons.1 hp
  have ih:=flatF_asc hr l b p2
  unfold qEp
  split
  ·refine List.pairwise_cons.2 ⟨fun z hz=>?_,ih⟩
   obtain ⟨_,u,v,u1,_,rfl,_⟩:=qR9 l b p2 z hz
   show b-r<u+r
   rcases List.mem_cons.1 u1 with rfl|u1
   ·grind
   ·have:=(List.pairwise_cons.1 p2).1 u u1;grind
  ·exact ih
structure FlatZ (x:List Rat) (r:Rat) (z:I2):Prop where
 le:z.1≤z.2
 lo:z.1∈qAc x r
 hi:z.2∈qAc x r
 no:∀y∈qAc x r,y≤z.1∨z.2≤y
 bel:(qAc x r).getD 0 0<z.1
 abv:z.2<(qAc x r).getD ((qAc x r).length-1) 0
theorem flat_z{x:List Rat}{r:Rat}(hr:0<r){z:I2}(hz:z∈qCi x r):FlatZ x r z:=by
 have as_:=qN2 (qL8 x)
 have mm:∀v,v∈cmpL (srt x)↔v∈x:=fun v=>⟨fun h=>(qD3 x).subset (cmpL_mem.1 h),fun h=>cmpL_mem.2 ((qD3 x).symm.subset h)⟩
 have B:=qBx x r
 have ef:∀y∈qDq x r,∃v∈x,y=v-r∨y=v+r:=by
  intro y
  clear as_ mm B hz
  induction x with
  |nil=>intro h;simp [qDq] at h
  |cons v x ih=>
   intro h
   simp only [qDq,List.mem_cons] at h
   rcases h with e|e|e
   ·exact ⟨v,List.mem_cons_self,.inl e⟩
   ·exact ⟨v,List.mem_cons_self,.inr e⟩
   ·obtain ⟨w,w1,w2⟩:=ih e
    exact ⟨w,List.mem_cons_of_mem _ w1,w2⟩
 have main:z.1≤z.2∧∃u v,u∈x∧v∈x∧z=(u+r,v-r)∧∀w∈x,w≤u∨v≤w:=by
  unfold qCi at hz
  match hl:cmpL (srt x),as_,mm,hz with
  |[],_,_,hz=>simp [qTe] at hz
  |b::l,as_,mm,hz=>
   obtain ⟨c,u,v,u1,v1,e,k⟩:=qR9 l b as_ z hz
   exact ⟨c,u,v,(mm u).1 u1,(mm v).1 (List.mem_cons_of_mem _ v1),e,fun w hw=>k w ((mm w).2 hw)⟩
 obtain ⟨c,u,v,hu,hv,rfl,k⟩:=main
 have fst:(qAc x r).getD 0 0≤u-r:=by
  obtain ⟨j,hj,e⟩:=List.getElem_of_mem (B.lo u hu)
  have:=qIi (x:=x) (r:=r) (Nat.zero_le j) hj
  rw [qBe hj,e] at this
  exact this
 have lst:v+r≤(qAc x r).getD ((qAc x r).length-1) 0:=by
  obtain ⟨j,hj,e⟩:=List.getElem_of_mem (B.hi v hv)
  have:=qIi (x:=x) (r:=r) (show j≤(qAc x r).length-1 by omega) (by omega)
  rw [qBe hj,e] at this
  exact this
 refine ⟨c,B.hi u hu,B.lo v hv,fun y hy=>?_,by show _<u+r;grind,by show v-r<_;grind⟩
 obtain ⟨w,hw,e⟩:=ef y (endsQ_mem.1 hy)
 have c':u+r≤v-r:=c
 show y≤u+r∨v-r≤y
 rcases k w hw with g|g<;>rcases e with e|e
 ·left;grind
 ·left;grind
 ·right;grind
 ·right;grind
theorem flat_asc{x:List Rat}{r:Rat}(hr:0<r):(qCi x r).Pairwise (fun y z=>y.2<z.1):=by
 have as_:=qN2 (qL8 x)
 unfold qCi
 match cmpL (srt x),as_ with
 |[],_=>exact List.Pairwise.nil
 |b::l,as_=>exact flatF_asc hr l b as_
theorem flat_in{x:List Rat}{r t:Rat}{z:I2}(hz:z∈qCi x r)(h1:z.1≤t)(h2:t≤z.2):actF x r t=[]:=flat_no (List.any_eq_true.2 ⟨z,hz,by
 show (decide (z.1≤t)&&decide (t≤z.2))=true
 rw [decide_eq_true h1,decide_eq_true h2];rfl⟩)
theorem flat_ex{x:List Rat}{r t:Rat}(hr:0<r)(x0:x≠[])(h1:(qAc x r).getD 0 0<t)(h2:t<(qAc x r).getD ((qAc x r).length-1) 0)(ha:actF x r t=[]):∃z∈qCi x r,z.1≤t∧t≤z.2:=by
 obtain ⟨z,hz,hc⟩:=List.any_eq_true.1 (qQh hr x0 h1 h2 ha)
 have hc':(decide (z.1≤t)&&decide (t≤z.2))=true:=hc
 rw [Bool.and_eq_true,decide_eq_true_eq,decide_eq_true_eq] at hc'
 exact ⟨z,hz,hc'⟩
theorem qJt{x:List Rat}{r y:Rat}{j:Nat}(hj:j+1<(qAc x r).length)(hy:y∈qAc x r):y≤(qAc x r).getD j 0∨(qAc x r).getD (j+1) 0≤y:=by
 have:=nbr (qBx x r).asc hj hy
 rwa [←qBe (show j+1<_ by omega),←qBe (show j<_ by omega)] at this
theorem pts_flat{N P Q:Int}{x:List Rat}{r:Rat}{bits:Nat}(h:TkIn N P Q x r){Rs:Nat->List I2}(hR:∀j,j+1<(qAc x r).length->qAj x r j≠[]->PcR x r bits j (Rs j)):∀y∈qDv x r Rs ((qAc x r).length-1),∀z∈qCi x r,meetI y z=none:=fun y hy z hz=>by
 have rp:=h.rp
 have ok:=(pts_ok h hR y hy).1
 have fz:=flat_z rp hz
 refine meet_none (fun hc=>?_) ok fz.le
 obtain ⟨j,j1,j2⟩:=qRc hy
 obtain ⟨hp,h2⟩:=qM3 j2
 have hj:j+1<(qAc x r).length:=by omega
 have hab:=qCz (x:=x) (r:=r) (Nat.lt_succ_self j) hj
 rcases h2 with ⟨i,i1,rfl⟩|⟨k1,k2,k3,rfl⟩
 ·obtain ⟨l,l1,l2,l3⟩:=(hR j hj hp).in_
  have b1:=(nrw_asc l3).2 i i1
  have b2:=(l3 i i1).to
  have e1:z.1≤(qAc x r).getD j 0:=by
   rcases qJt hj fz.lo with g|g
   ·exact g
   ·have:=hc.1;grind
  have e2:(qAc x r).getD (j+1) 0≤z.2:=by
   rcases qJt hj fz.hi with g|g
   ·have:=hc.2;grind
   ·exact g
  have:=flat_in hz (t:=mid2 ((qAc x r).getD j 0,(qAc x r).getD (j+1) 0)) (by unfold mid2;dsimp only;grind) (by unfold mid2;dsimp only;grind)
  exact (qHh rp).2 hp this
 ·have:=flat_in hz (t:=(qAc x r).getD (j+1) 0) hc.1 hc.2
  have:=qQh rp h.ne (qCz (Nat.succ_pos j) hj) (qCz (by omega) (by omega)) this
  rw [this] at k2;cases k2
def flt(F:List I2)(t:Rat):List I2:=F.filter fun z=>decide (z.1<t)
theorem qSa{p q:I2->Bool}{z:I2}:∀{F:List I2},F.Pairwise (fun y z=>y.2<z.1)->(∀y∈F,y.1≤y.2)->z∈F->(∀y∈F,p y=true->y.1<z.1)->(∀y∈F,q y=(p y||decide (y=z)))->F.filter q=F.filter p++[z]
 |[],_,_,hz,_,_=>by simp at hz
 |y::F,ha,hl,hz,hp,hq=>by
  obtain ⟨a1,a2⟩:=List.pairwise_cons.1 ha
  have ih:=fun hz=>qSa (p:=p) (q:=q) (z:=z) a2 (fun u hu=>hl u (List.mem_cons_of_mem _ hu)) hz (fun u hu=>hp u (List.mem_cons_of_mem _ hu)) (fun u hu=>hq u (List.mem_cons_of_mem _ hu))
  have q1:=hq y List.mem_cons_self
  rw [List.filter_cons,List.filter_cons]
  by_cases e:y=z
  ·subst e
   have pf:p y=false:=Bool.eq_false_iff.2 fun k=>Rat.lt_irrefl (hp y List.mem_cons_self k)
   have qt:q y=true:=by rw [q1,decide_eq_true rfl,Bool.or_true]
   have n1:F.filter q=[]:=by
    rw [List.filter_eq_nil_iff]
    intro u hu k
    rw [hq u (List.mem_cons_of_mem _ hu),Bool.or_eq_true,decide_eq_true_eq] at k
    have l1:=a1 u hu
    have l2:=hl y List.mem_cons_self
    rcases k with k|k
    ·have:=hp u (List.mem_cons_of_mem _ hu) k;grind
    ·rw [k] at l1;grind
   have n2:F.filter p=[]:=by
    rw [List.filter_eq_nil_iff]
    intro u hu k
    have l1:=a1 u hu
    have l2:=hl y List.mem_cons_self
    have:=hp u (List.mem_cons_of_mem _ hu) k;grind
   rw [if_pos qt,if_neg (by rw [pf];decide),n1,n2];rfl
  ·have hz':z∈F:=by
    rcases List.mem_cons.1 hz with g|g
    ·exact absurd g.symm e
    ·exact g
   rw [decide_eq_false e,Bool.or_false] at q1
   rw [q1,ih hz']
   cases p y<;>rfl
structure FlJ (x:List Rat) (r:Rat) (j:Nat):Prop where
 j1:1≤j
 lt:j<(qAc x r).length
 out:∀z∈qCi x r,z.1<(qAc x r).getD j 0->z.2<(qAc x r).getD j 0
theorem flt_one{x:List Rat}{r:Rat}(hr:0<r)(hl:1<(qAc x r).length):FlJ x r 1∧flt (qCi x r) ((qAc x r).getD 1 0)=[]:=by
 have no:∀z∈qCi x r,¬z.1<(qAc x r).getD 1 0:=fun z hz k=>by
  have fz:=flat_z hr hz
  have:=fz.bel
  rcases qJt (j:=0) hl fz.lo with g|g<;>grind
 refine ⟨⟨Nat.le_refl _,hl,fun z hz k=>absurd k (no z hz)⟩,?_⟩
 unfold flt
 rw [List.filter_eq_nil_iff]
 intro z hz k
 rw [decide_eq_true_eq] at k
 exact no z hz k
theorem flt_step{x:List Rat}{r:Rat}(hr:0<r)(x0:x≠[]){j:Nat}(h:FlJ x r j)(hj:j+1<(qAc x r).length):
    (actF x r ((qAc x r).getD j 0)≠[]->FlJ x r (j+1)∧flt (qCi x r) ((qAc x r).getD (j+1) 0)=flt (qCi x r) ((qAc x r).getD j 0))∧
    (actF x r ((qAc x r).getD j 0)=[]->(j+2<(qAc x r).length∧actF x r (mid2 ((qAc x r).getD j 0,(qAc x r).getD (j+1) 0))=[]->FlJ x r (j+2)∧flt (qCi x r) ((qAc x r).getD (j+2) 0)=flt (qCi x r) ((qAc x r).getD j 0)++[((qAc x r).getD j 0,(qAc x r).getD (j+1) 0)])∧
      (¬(j+2<(qAc x r).length∧actF x r (mid2 ((qAc x r).getD j 0,(qAc x r).getD (j+1) 0))=[])->FlJ x r (j+1)∧flt (qCi x r) ((qAc x r).getD (j+1) 0)=flt (qCi x r) ((qAc x r).getD j 0)++[((qAc x r).getD j 0,(qAc x r).getD j 0)])):=by
  have h1:=h.j1
  have hab:=qCz (x:=x) (r:=r) (Nat.lt_succ_self j) hj
  have fz:=fun z hz=>flat_z hr (x:=x) (z:=z) hz
  have q0:=qCz (x:=x) (r:=r) (show 0<j by omega) h.lt
  have ql:=qCz (x:=x) (r:=r) (show j<(qAc x r).length-1 by omega) (by omega)
  have fa:=flat_asc hr (x:=x)
  have out:=h.out
  have lt1:∀z∈qCi x r,z.1<(qAc x r).getD (j+1) 0->z.1≤(qAc x r).getD j 0:=fun z hz k=>by
    rcases qJt hj (fz z hz).lo with g|g
    · exact g
    · grind
  refine ⟨fun ha=>?_,fun ha=>?_⟩
  · have st:∀z∈qCi x r,z.1<(qAc x r).getD (j+1) 0↔z.1<(qAc x r).getD j 0:=fun z hz=>by
      constructor
      · intro k
        rcases Rat.le_iff_lt_or_eq.1 (lt1 z hz k) with g|g
        · exact g
        · exact absurd (flat_in hz (t:=(qAc x r).getD j 0) (by rw [g];exact Rat.le_refl) (by rw [←g];exact (fz z hz).le)) ha
      · intro k;grind
    refine ⟨⟨by omega,hj,fun z hz k=>?_⟩,?_⟩
    · have:=out z hz ((st z hz).1 k);grind
    · unfold flt
      refine List.filter_congr fun z hz=>?_
      by_cases k:z.1<(qAc x r).getD j 0
      · rw [decide_eq_true k,decide_eq_true ((st z hz).2 k)]
      · rw [decide_eq_false k,decide_eq_false (fun e=>k ((st z hz).1 e))]
  · obtain ⟨z,hz,z1,z2⟩:=flat_ex hr x0 q0 ql ha
    have Z:=fz z hz
    have e1:z.1=(qAc x r).getD j 0:=by
      rcases Rat.le_iff_lt_or_eq.1 z1 with g|g
      · have:=out z hz g;grind
      · exact g
    have uniq:∀y∈qCi x r,y.1=z.1->y=z:=fun y hy e=>by
      obtain ⟨a,ha',rfl⟩:=List.getElem_of_mem hy
      obtain ⟨b,hb',rfl⟩:=List.getElem_of_mem hz
      have P:=List.pairwise_iff_getElem.1 fa
      rcases Nat.lt_trichotomy a b with g|g|g
      · have l1:=P a b ha' hb' g
        have l2:=(fz _ hy).le
        grind
      · subst g;rfl
      · have l1:=P b a hb' ha' g
        have l2:=(fz _ hz).le
        grind
    refine ⟨fun hc=>?_,fun hc=>?_⟩
    · have e2:z.2=(qAc x r).getD (j+1) 0:=by
        have m0:(qAc x r).getD 0 0<mid2 ((qAc x r).getD j 0,(qAc x r).getD (j+1) 0):=by unfold mid2;dsimp only;grind
        have ql2:=qCz (x:=x) (r:=r) (show j+1<(qAc x r).length-1 by omega) (by omega)
        have m1:mid2 ((qAc x r).getD j 0,(qAc x r).getD (j+1) 0)<(qAc x r).getD ((qAc x r).length-1) 0:=by unfold mid2;dsimp only;grind
        obtain ⟨y,hy,y1,y2⟩:=flat_ex hr x0 m0 m1 hc.2
        have Y:=fz y hy
        unfold mid2 at y1 y2
        dsimp only at y1 y2
        have f1:=lt1 y hy (by grind)
        have f2:y.1=z.1:=by
          rcases Rat.le_iff_lt_or_eq.1 f1 with g|g
          · have:=out y hy g;grind
          · rw [g,e1]
        have:=uniq y hy f2
        subst this
        have ge:(qAc x r).getD (j+1) 0≤y.2:=by
          rcases qJt hj Y.hi with g|g
          · grind
          · exact g
        have mj:(qAc x r).getD (j+1) 0∈qAc x r:=by rw [qBe hj];exact List.getElem_mem _
        rcases Y.no _ mj with g|g
        · grind
        · grind
      have ez:z=((qAc x r).getD j 0,(qAc x r).getD (j+1) 0):=by rw [←e1,←e2]
      have hab2:=qCz (x:=x) (r:=r) (show j+1<j+2 by omega) hc.1
      have cls:∀y∈qCi x r,y.1<(qAc x r).getD (j+2) 0->y.1<(qAc x r).getD j 0∨y=z:=fun y hy k=>by
        have g1:y.1≤(qAc x r).getD (j+1) 0:=by
          rcases qJt (j:=j+1) hc.1 (fz y hy).lo with g|g
          · exact g
          · have:(qAc x r).getD (j+1+1) 0=(qAc x r).getD (j+2) 0:=rfl
            grind
        by_cases g2:y.1<(qAc x r).getD j 0
        · exact .inl g2
        · right
          refine uniq y hy ?_
          refine Classical.byContradiction fun ne=>?_
          have g3:z.1<y.1:=by grind
          obtain ⟨a,ha',rfl⟩:=List.getElem_of_mem hy
          obtain ⟨b,hb',rfl⟩:=List.getElem_of_mem hz
          have P:=List.pairwise_iff_getElem.1 fa
          rcases Nat.lt_trichotomy a b with g|g|g
          · have l1:=P a b ha' hb' g
            have l2:=(fz _ hy).le
            grind
          · subst g;exact ne rfl
          · have l1:=P b a hb' ha' g
            grind
      refine ⟨⟨by omega,hc.1,fun y hy k=>?_⟩,?_⟩
      · rcases cls y hy k with g|g
        · have:=out y hy g;grind
        · rw [g,e2];exact hab2
      · rw [←ez]
        unfold flt
        refine qSa fa (fun y hy=>(fz y hy).le) hz (fun y hy k=>by rw [decide_eq_true_eq] at k;rw [e1];exact k) fun y hy=>?_
        by_cases g2:y.1<(qAc x r).getD j 0
        · rw [decide_eq_true g2,decide_eq_true (show y.1<(qAc x r).getD (j+2) 0 by grind)];rfl
        · by_cases g3:y=z
          · rw [decide_eq_true g3,Bool.or_true,decide_eq_true (show y.1<(qAc x r).getD (j+2) 0 by rw [g3,e1];grind)]
          · rw [decide_eq_false g2,decide_eq_false g3,decide_eq_false (fun k=>(cls y hy k).elim g2 g3)];rfl
    · have e2:z.2=(qAc x r).getD j 0:=by
        refine Classical.byContradiction fun ne=>?_
        have gt:(qAc x r).getD j 0<z.2:=by have:=Z.le;grind
        have ge:(qAc x r).getD (j+1) 0≤z.2:=by
          rcases qJt hj Z.hi with g|g
          · grind
          · exact g
        refine hc ⟨?_,flat_in hz (by unfold mid2;dsimp only;grind) (by unfold mid2;dsimp only;grind)⟩
        refine Nat.lt_of_not_le fun k=>?_
        have:=Z.abv
        rw [show (qAc x r).length-1=j+1 by omega] at this
        grind
      have ez:z=((qAc x r).getD j 0,(qAc x r).getD j 0):=by
        have:z=(z.1,z.2):=rfl
        rw [this,e1,e2]
      have cls:∀y∈qCi x r,y.1<(qAc x r).getD (j+1) 0->y.1<(qAc x r).getD j 0∨y=z:=fun y hy k=>by
        rcases Rat.le_iff_lt_or_eq.1 (lt1 y hy k) with g|g
        · exact .inl g
        · exact .inr (uniq y hy (by rw [g,e1]))
      refine ⟨⟨by omega,hj,fun y hy k=>?_⟩,?_⟩
      · rcases cls y hy k with g|g
        · have:=out y hy g;grind
        · rw [g,e2];exact hab
      · rw [←ez]
        unfold flt
        refine qSa fa (fun y hy=>(fz y hy).le) hz (fun y hy k=>by rw [decide_eq_true_eq] at k;rw [e1];exact k) fun y hy=>?_
        by_cases g2:y.1<(qAc x r).getD j 0
        · rw [decide_eq_true g2,decide_eq_true (show y.1<(qAc x r).getD (j+1) 0 by grind)];rfl
        · by_cases g3:y=z
          · rw [decide_eq_true g3,Bool.or_true,decide_eq_true (show y.1<(qAc x r).getD (j+1) 0 by rw [g3,e1];exact hab)]
          · rw [decide_eq_false g2,decide_eq_false g3,decide_eq_false (fun k=>(cls y hy k).elim g2 g3)];rfl
theorem flt_all{x:List Rat}{r:Rat}(hr:0<r):flt (qCi x r) ((qAc x r).getD ((qAc x r).length-1) 0)=qCi x r:=by
 unfold flt
 rw [List.filter_eq_self]
 intro z hz
 have:=(flat_z hr hz).abv
 have:=(flat_z hr hz).le
 exact decide_eq_true (by grind)
end Go.Proofs.YtejigedigmagdaaGreat
set_option linter.unusedSectionVars false
namespace Go.Vw
open Go.RowKit
inductive UpdB:Type 1 where
 |reg (d:Option Tmp) (x:V)
 |call (d:Tmp) (x:V) (bs:List (Nat×Blk))
def UpdB.dst:UpdB->Option Tmp
 | .reg d _=>d
 | .call d _ _=>some d
def qI9(all:Array Oper)(a b:Oper):Bool:=qFa all b a.dst||qFa all a b.dst||(match a.dst,b.dst with|some x,some y=>x==y|_,_=>false)
def ordB(ops:Array Oper)(n:Nat):Bool:=
 qIc ops&&Nat.ble n ops.size&&
 ((List.range n).all fun j=>match ops[j]? with
  |some b=>(List.range j).all fun i=>match ops[i]? with
   |some a=> !(qI9 ops a b)||((qFw ops.toList []).getD j 0).testBit i
   |none=>false
  |none=>false)&&
 ((List.range ops.size).all fun i=>Nat.blt i n||Nat.beq ((qFw ops.toList []).getD i 0) (2^i-1))
structure OrdB (ops:Array Oper) (n:Nat):Prop where
 tf:TailFacts ops n
 ord:∀i j a b,i<j->j<n->ops[i]? =some a->ops[j]? =some b->qI9 ops a b=true->((qFw ops.toList []).getD j 0).testBit i=true
theorem ordB_spec{ops:Array Oper}{n:Nat}(h:ordB ops n=true):OrdB ops n:=by
  simp only [ordB,Bool.and_eq_true] at h
  obtain ⟨⟨⟨hb,hle⟩,hm⟩,ht⟩:=h
  refine ⟨⟨fun i o hi e he hbind=>?_,Nat.le_of_ble_eq_true hle,fun i h1 h2 j hj=>?_⟩,fun i j a b hij hj ha hb' hc=>?_⟩
  · simp only [qIc,List.all_eq_true,List.mem_range] at hb
    have:=hb i (Array.getElem?_eq_some_iff.1 hi).1
    rw [hi] at this
    simp only [List.all_eq_true] at this
    have:=this e (by simpa using he)
    rw [hbind] at this
    simpa [Nat.blt_eq] using this
  · simp only [List.all_eq_true,List.mem_range] at ht
    have h3:=ht i h2
    have hnb:Nat.blt i n=false:=by
      cases hq:Nat.blt i n with
      |false=>rfl
      |true=>have:i<n:=by simpa [Nat.blt_eq] using hq
             omega
    rw [hnb,Bool.false_or] at h3
    have h4:=Nat.eq_of_beq_eq_true h3
    rw [h4,Nat.testBit_two_pow_sub_one]
    simpa using hj
  · simp only [List.all_eq_true,List.mem_range] at hm
    have h1:=hm j hj
    rw [hb'] at h1
    simp only [List.all_eq_true,List.mem_range] at h1
    have h2:=h1 i hij
    rw [ha] at h2
    simp only [hc,Bool.not_true,Bool.false_or] at h2
    exact h2
inductive PRunB (X:Ctx) (all:Array Oper) (kk:List Nat) (c:Nat):Nat->List Oper->St->St->Prop
 |nil {m:Nat} {s:St}:PRunB X all kk c m [] s s
 |reg {m:Nat} {o:Oper} {rest:List Oper} {s s':St} {x:V} (hmc:m≠c) (hd:qB5 X.N o.dst=true) (h:∀s':St,(∀t∈o.looksAt all,s'.tmps t=s.tmps t)->(∀k,kk.contains k=false->s'.blk k=s.blk k)->M1 X all s' o x) (k:PRunB X all kk c (m+1) rest (s.put o.dst x) s'):PRunB X all kk c m (o::rest) s s'
 |call {m:Nat} {o:Oper} {rest:List Oper} {s s':St} {d:Tmp} {x:V} {bs:List (Nat×Blk)} (hmc:m=c) (hd:o.dst=some d) (hk:∀k,kk.contains k=false->qAh bs k=none) (h:∀s':St,s'.blk=s.blk->(∀t∈o.looksAt all,s'.tmps t=s.tmps t)->E1 X all s' o ((s'.over bs).put (some d) x)) (k:PRunB X all kk c (m+1) rest ((s.over bs).put (some d) x) s'):PRunB X all kk c m (o::rest) s s'
inductive UpdOkB (X:Ctx) (all:Array Oper) (kk:List Nat) (c m:Nat) (s:St) (o:Oper):UpdB->Prop
 |reg {x:V} (hmc:m≠c) (hd:qB5 X.N o.dst=true) (h:∀s':St,(∀t∈o.looksAt all,s'.tmps t=s.tmps t)->(∀k,kk.contains k=false->s'.blk k=s.blk k)->M1 X all s' o x):UpdOkB X all kk c m s o (.reg o.dst x)
 |call {d:Tmp} {x:V} {bs:List (Nat×Blk)} (hmc:m=c) (hd:o.dst=some d) (hk:∀k,kk.contains k=false->qAh bs k=none) (h:∀s':St,s'.blk=s.blk->(∀t∈o.looksAt all,s'.tmps t=s.tmps t)->E1 X all s' o ((s'.over bs).put (some d) x)):UpdOkB X all kk c m s o (.call d x bs)
section
variable {X:Ctx} {all:Array Oper} {Q:Exit->St->Prop} {s:St} {o:Oper} {pre rest:List Oper} {kk:List Nat} {c m:Nat}
end
def pinO(ops:Array Oper)(c i:Nat):Bool:=Nat.blt i c&&((qFw ops.toList []).getD c 0).testBit i
theorem pinO_lt{ops:Array Oper}{c i:Nat}(h:pinO ops c i=true):i<c∧((qFw ops.toList []).getD c 0).testBit i=true:=by
 unfold pinO at h
 rw [Bool.and_eq_true,Nat.blt_eq] at h
 exact h
def ordO(ops:Array Oper)(n c:Nat):Bool:=
 ordB ops n&&Nat.blt c n&&
 ((List.range n).all fun i=>match ops[i]? with
  |some a=>bif Nat.beq i c then isApp a else !(isApp a)&&(pinO ops c i||(List.range n).all fun j=>match ops[j]? with|some b=> !(qFa ops a b.dst)|none=>false)
  |none=>false)
structure OrdO (ops:Array Oper) (n c:Nat):Prop where
 b:OrdB ops n
 lt:c<n
 app:∀i a,i<n->ops[i]? =some a->isApp a=decide (i=c)
 free:∀i j a b,i<n->j<n->i≠c->pinO ops c i=false->ops[i]? =some a->ops[j]? =some b->qFa ops a b.dst=false
theorem ordO_spec{ops:Array Oper}{n c:Nat}(h:ordO ops n c=true):OrdO ops n c:=by
 simp only [ordO,Bool.and_eq_true] at h
 obtain ⟨⟨h1,h2⟩,h3⟩:=h
 have key:∀i a,i<n->ops[i]? =some a->(bif Nat.beq i c then isApp a else !(isApp a)&&(pinO ops c i||(List.range n).all fun j=>match ops[j]? with|some b=> !(qFa ops a b.dst)|none=>false))=true:=fun i a hi ha=>by
  simp only [List.all_eq_true,List.mem_range] at h3
  have:=h3 i hi
  rw [ha] at this
  simpa only [List.all_eq_true,List.mem_range] using this
 refine ⟨ordB_spec h1,by simpa [Nat.blt_eq] using h2,fun i a hi ha=>?_,fun i j a b hi hj hic hp ha hb=>?_⟩
 ·have:=key i a hi ha
  by_cases e:i=c
  ·subst e;rw [Nat.beq_refl] at this;simpa using this
  ·rw [qEe e] at this
   simp only [cond_false,Bool.and_eq_true,Bool.not_eq_true'] at this
   rw [this.1,decide_eq_false e]
 ·have:=key i a hi ha
  rw [qEe hic] at this
  simp only [cond_false,Bool.and_eq_true,Bool.not_eq_true',hp,Bool.false_or,List.all_eq_true,List.mem_range] at this
  have:=this.2 j hj
  rw [hb] at this
  simpa using this
inductive PRunO (X:Ctx) (all:Array Oper) (K c:Nat) (s0:St):Nat->List Oper->St->St->Prop
 |nil {m:Nat} {s:St}:PRunO X all K c s0 m [] s s
 |reg {m:Nat} {o:Oper} {rest:List Oper} {s s':St} {x:V} (hmc:m≠c) (hd:qB5 X.N o.dst=true) (h:∀s1:St,(∀t∈o.looksAt all,s1.tmps t=s.tmps t)->(pinO all c m=true->s1.blk=s0.blk)->M1 X all s1 o x) (hx:pinO all c m=true∨(x.noKey K=true∧∀t∈o.looksAt all,(s0.tmps t).noKey K=true)) (k:PRunO X all K c s0 (m+1) rest (s.put o.dst x) s'):PRunO X all K c s0 m (o::rest) s s'
 |app {m:Nat} {o:Oper} {rest:List Oper} {s s':St} {d:Tmp} {x:V} {b:Blk} (hmc:m=c) (hd:o.dst=some d) (h:∀s1:St,s1.blk=s0.blk->(∀t∈o.looksAt all,s1.tmps t=s.tmps t)->E1 X all s1 o ((s1.new K b).put (some d) x)) (kk:PRunO X all K c s0 (m+1) rest ((s.new K b).put (some d) x) s'):PRunO X all K c s0 m (o::rest) s s'
inductive UpdOkO (X:Ctx) (all:Array Oper) (K c m:Nat) (s0 s:St) (o:Oper):UpdA->Prop
 |reg {x:V} (hmc:m≠c) (hd:qB5 X.N o.dst=true) (h:∀s1:St,(∀t∈o.looksAt all,s1.tmps t=s.tmps t)->(pinO all c m=true->s1.blk=s0.blk)->M1 X all s1 o x) (hx:pinO all c m=true∨(x.noKey K=true∧∀t∈o.looksAt all,(s0.tmps t).noKey K=true)):UpdOkO X all K c m s0 s o (.reg o.dst x)
 |app {d:Tmp} {x:V} {b:Blk} (hmc:m=c) (hd:o.dst=some d) (h:∀s1:St,s1.blk=s0.blk->(∀t∈o.looksAt all,s1.tmps t=s.tmps t)->E1 X all s1 o ((s1.new K b).put (some d) x)):UpdOkO X all K c m s0 s o (.app d x K b)
theorem prunO_us{X:Ctx}{all:Array Oper}{K c:Nat}{s0:St}:∀{l:List Oper} {m:Nat} {s s':St},PRunO X all K c s0 m l s s'->∃us:Nat->UpdA,s'=accA s us (fun _=>true) l.length∧∀i o,l[i]? =some o->UpdOkO X all K c (m+i) s0 (accA s us (fun _=>true) i) o (us i)
 |[],m,s,s',h=>by
  cases h
  exact ⟨fun _=>.reg none (.d .undef),rfl,fun i o h=>by simp at h⟩
 |o::rest,m,s,s',h=>by
  have shift:∀(u0:UpdA) (us:Nat->UpdA) (m:Nat) (s0:St),accA s0 (fun i=>match i with|0=>u0|i+1=>us i) (fun _=>true) (m+1)=accA (apA s0 u0) us (fun _=>true) m:=fun u0 us m s0=>by
   induction m with
   |zero=>rfl
   |succ m ih=>rw [accA,ih];rfl
  have fin:∀(u0:UpdA),UpdOkO X all K c m s0 s o u0->PRunO X all K c s0 (m+1) rest (apA s u0) s'->∃us:Nat->UpdA,s'=accA s us (fun _=>true) (o::rest).length∧∀i o',(o::rest)[i]? =some o'->UpdOkO X all K c (m+i) s0 (accA s us (fun _=>true) i) o' (us i):=fun u0 h0 hk=>by
   obtain ⟨us,h1,h2⟩:=prunO_us hk
   refine ⟨fun i=>match i with|0=>u0|i+1=>us i,?_,fun i o' hi=>?_⟩
   ·rw [List.length_cons,shift,h1]
   ·cases i with
    |zero=>simp at hi;subst hi;exact h0
    |succ i=>rw [shift,show m+(i+1)=m+1+i by omega];exact h2 i o' (by simpa using hi)
  cases h with
  |reg hmc hd hm hx hk=>exact fin _ (.reg hmc hd hm hx) hk
  |app hmc hd hm kk=>exact fin _ (.app hmc hd hm) kk
theorem accA_idle{s:St}{us:Nat->UpdA}{L:Nat->Bool}{t K:Nat}(h0:(s.tmps t).noKey K=true):∀n,(∀i,i<n->(us i).dst≠some t)->(∀i,i<n->∀d x k b,us i= .app d x k b->k=K)->(accA s us L n).tmps t=s.tmps t
 |0,_,_=>rfl
 |n+1,h1,h2=>by
  have ih:=accA_idle (L:=L) h0 n (fun i hi=>h1 i (by omega)) (fun i hi=>h2 i (by omega))
  simp only [accA]
  cases L n with
  |false=>exact ih
  |true=>
   simp only [cond_true]
   have hd:=h1 n (by omega)
   cases hu:us n with
   |reg d x=>rw [hu] at hd;exact (qHf hd).trans ih
   |app d x k b=>
    rw [hu] at hd
    have:=h2 n (by omega) d x k b hu
    subst this
    simp only [apA]
    rw [qH1,if_neg (fun e=>hd (by rw [e];rfl)),qNj,ih,V.sub_noKey _ h0]
theorem qTh{X:Ctx}(hm:X.P.follows .mixedOrders=true){id:Nat}{ops:List Oper}(n c K:Nat)(hok:ordO ops.toArray n c=true){Q:Exit->St->Prop}{s s1:St}(hrun:PRunO X ops.toArray K c s 0 (ops.take n) s s1)(htail:awpL X ops.toArray (ops.drop n) Q s1):awp X (.region id ops.toArray true) Q s:=by
  have ho:=ordO_spec hok
  have hf:=ho.b
  obtain ⟨us,hs1,hx⟩:=prunO_us hrun
  have hle:=hf.tf.le
  have hsz:ops.toArray.size=ops.length:=rfl
  have getop:∀i,i<n->(ops.take n)[i]? =ops.toArray[i]? :=fun i hi=>by simp [List.getElem?_take,hi]
  have hlen:(ops.take n).length=n:=by simp;omega
  rw [hlen] at hs1
  have ok:∀i o,i<n->ops.toArray[i]? =some o->UpdOkO X ops.toArray K c i s (accA s us (fun _=>true) i) o (us i):=fun i o hi ho=>by
    have:=hx i o (by rw [getop i hi];exact ho)
    rwa [Nat.zero_add] at this
  have getn:∀j,j<n->∃o,ops.toArray[j]? =some o:=fun j hj=>⟨_,Array.getElem?_eq_getElem (by omega)⟩
  have dstOf:∀i o,i<n->ops.toArray[i]? =some o->(us i).dst=o.dst:=fun i o hi ho=>by
    have:=ok i o hi ho
    generalize us i=u at this
    cases this with
    |reg=>rfl
    |app _ hd=>exact hd.symm
  have isc:∀i,i<n->((us i).isApp=true↔i=c):=fun i hi=>by
    obtain ⟨o,ho⟩:=getn i hi
    have:=ok i o hi ho
    generalize us i=u at this
    cases this with
    |reg hmc=>exact ⟨fun e=>by simp [UpdA.isApp] at e,fun e=>absurd e hmc⟩
    |app hmc=>exact ⟨fun _=>hmc,fun _=>rfl⟩
  have appk:∀i,i<n->∀d x k b,us i= .app d x k b->k=K:=fun i hi d x k b hu=>by
    obtain ⟨o,ho⟩:=getn i hi
    have:=ok i o hi ho
    rw [hu] at this
    cases this with
    |app=>rfl
  have full:∀i,i≤n->accA s us (fun _=>true) i=accA s us (fun j=>decide (j<i)) n:=fun i hi=>by
    have h1:accA s us (fun _=>true) i=accA s us (fun j=>decide (j<i)) i:=qGb i fun j hj=>by simp [hj]
    have h2:∀m,i≤m->m≤n->accA s us (fun j=>decide (j<i)) m=accA s us (fun j=>decide (j<i)) i:=by
      intro m
      induction m with
      |zero=>intro h1 _;obtain rfl:i=0:=by omega
             rfl
      |succ m ih=>
        intro h1 h2
        by_cases e:i=m+1
        · rw [e]
        · simp only [accA];rw [ih (by omega) (by omega)];simp [show ¬m<i by omega]
    rw [h1,h2 n hi (Nat.le_refl _)]
  refine qIk hm n hf.tf (fun L=>accA s us L n) (s1:=s1) ?_ (fun L h1 h2=>?_) (fun L i o hi ho' hLi hLn hLp hLc=>?_) htail
  · have:∀m,accA s us (fun _=>false) m=s:=by
      intro m
      induction m with
      |zero=>rfl
      |succ m ih=>simp only [accA,cond_false];exact ih
    exact this n
  · rw [hs1]
    exact qGb n fun j hj=>h1 j hj
  · have pinc:pinO ops.toArray c i=true->L c=false∧i<c:=fun hp=>by
      refine ⟨?_,?_⟩
      · cases hL:L c with
        |false=>rfl
        |true=>
          have:=hLc c hL i (pinO_lt hp).2
          rw [hLi] at this;cases this
      · exact (pinO_lt hp).1
    have diff:∀j b,j<n->ops.toArray[j]? =some b->qI9 ops.toArray b o=true∨qI9 ops.toArray o b=true->L j=decide (j<i):=fun j b hj hb hc=>by
      have sym:qI9 ops.toArray b o=true∧qI9 ops.toArray o b=true:=by
        have:qI9 ops.toArray b o=qI9 ops.toArray o b:=by
          unfold qI9
          rw [Bool.or_comm (qFa ops.toArray o b.dst)]
          congr 1
          cases b.dst<;>cases o.dst<;>simp [Bool.beq_comm,eq_comm]
        rw [this] at hc ⊢
        simpa using hc
      rcases Nat.lt_trichotomy j i with h|h|h
      · rw [decide_eq_true h];exact hLp j h (hf.ord j i b o h hi hb ho' sym.1)
      · subst h;rw [hLi,decide_eq_false (by omega)]
      · rw [decide_eq_false (by omega)]
        cases hL:L j with
        |false=>rfl
        |true=>
          have:=hLc j hL i (hf.ord i j o b h hj ho' hb sym.2)
          rw [hLi] at this;cases this
    have regK:∀j,j<n->∀d x,us j= .reg d x->pinO ops.toArray c j=false->x.noKey K=true:=fun j hj d x hu hp=>by
      obtain ⟨b,hb⟩:=getn j hj
      have:=ok j b hj hb
      rw [hu] at this
      cases this with
      |reg _ _ _ hx=>exact (hx.resolve_left (by rw [hp];decide)).1
    have hins:accA s us (insL L i) n=apA (accA s us L n) (us i):=qJ1 hLi n hi fun j hij hjn hLj s0=>by
      obtain ⟨b,hb⟩:=getn j hjn
      have hnc:qI9 ops.toArray o b=false:=by
        cases hc:qI9 ops.toArray o b with
        |false=>rfl
        |true=>
          have:=hLc j hLj i (hf.ord i j o b hij hjn ho' hb hc)
          rw [hLi] at this;cases this
      simp only [qI9,Bool.or_eq_false_iff] at hnc
      obtain ⟨_,h3⟩:=hnc
      have hd:∀t,(us i).dst=some t->(us j).dst≠some t:=fun t e1 e2=>by
        rw [dstOf i o hi ho'] at e1
        rw [dstOf j b hjn hb] at e2
        rw [e1,e2] at h3
        simp at h3
      have hap:¬((us i).isApp=true∧(us j).isApp=true):=fun ⟨e1,e2⟩=>by
        have:=(isc i hi).1 e1
        have:=(isc j hjn).1 e2
        omega
      cases hui:us i with
      |reg d x=>
        rw [hui] at hd
        cases huj:us j with
        |reg d' x'=>rw [huj] at hd;simp only [apA];exact qGz hd
        |app d' x' k' b'=>
          rw [huj] at hd
          have e:=appk j hjn d' x' k' b' huj
          subst e
          have ejc:j=c:=(isc j hjn).1 (by rw [huj];rfl)
          have hp:pinO ops.toArray c i=false:=by
            cases hp:pinO ops.toArray c i with
            |false=>rfl
            |true=>
              have:=(pinc hp).1
              rw [←ejc,hLj] at this;cases this
          simp only [apA]
          rw [qOr (regK i hi d x hui hp)]
          exact qGz (d:=d) (d':=some d') hd
      |app d x k' b'=>
        rw [hui] at hd hap
        have e:=appk i hi d x k' b' hui
        subst e
        have eic:i=c:=(isc i hi).1 (by rw [hui];rfl)
        cases huj:us j with
        |reg d' x'=>
          rw [huj] at hd
          have hp:pinO ops.toArray c j=false:=by
            cases hp:pinO ops.toArray c j with
            |false=>rfl
            |true=>
              have:=(pinO_lt hp).1
              omega
          simp only [apA]
          rw [qOr (regK j hjn d' x' huj hp)]
          exact qGz (d:=some d) (d':=d') hd
        |app d' x' k'' b''=>rw [huj] at hap;exact absurd ⟨rfl,rfl⟩ hap
    show E1 X ops.toArray (accA s us L n) o (accA s us (insL L i) n)
    rw [hins]
    have hoki:=ok i o hi ho'
    have tmB:L c=decide (c<i)->∀t∈o.looksAt ops.toArray,(accA s us L n).tmps t=(accA s us (fun _=>true) i).tmps t:=fun hLce t ht=>by
      rw [full i (by omega)]
      refine qQp n (fun j hj hu=>?_) fun j hj hu=>?_
      · obtain ⟨b,hb⟩:=getn j hj
        have hbd:b.dst=some t:=by rw [←dstOf j b hj hb];exact hu
        exact diff j b hj hb (.inl (by simp [qI9,hbd,qFl ht]))
      · have:=(isc j hj).1 hu
        subst this;exact hLce
    have blk0:∀(L':Nat->Bool),L' c=false->∀m,m≤n->(accA s us L' m).blk=s.blk:=fun L' hL' m hm'=>by
      have:=qQo (s:=s) (us:=us) (L:=L') (L':=fun _=>false) m fun j hj hu=>by
        have:=(isc j (by omega)).1 hu
        subst this;exact hL'
      rw [this]
      have:∀m,accA s us (fun _=>false) m=s:=by
        intro m
        induction m with
        |zero=>rfl
        |succ m ih=>simp only [accA,cond_false];exact ih
      rw [this]
    cases hui:us i with
    |reg d x=>
      rw [hui] at hoki
      cases hoki with
      |reg hmc hd h hxx=>
        refine (h (accA s us L n) ?_ fun hp=>?_).e1 hd
        · cases hp:pinO ops.toArray c i with
          |true=>
            obtain ⟨q1,q2⟩:=pinc hp
            exact tmB (by rw [q1,decide_eq_false (by omega)])
          |false=>
            intro t ht
            have h0:=(hxx.resolve_left (by rw [hp];decide)).2 t ht
            have idle:∀(L':Nat->Bool) m,m≤n->(accA s us L' m).tmps t=s.tmps t:=fun L' m hm'=>accA_idle h0 m (fun j hj hu=>by
              obtain ⟨b,hb⟩:=getn j (by omega)
              have:=ho.free i j o b hi (by omega) hmc hp ho' hb
              rw [←dstOf j b (by omega) hb,hu,qFl ht] at this
              cases this) (fun j hj=>appk j (by omega))
            rw [idle L n (Nat.le_refl _),idle _ i (by omega)]
        · exact blk0 L (pinc hp).1 n (Nat.le_refl _)
    |app d x k b=>
      rw [hui] at hoki
      cases hoki with
      |app hmc hd h=>
        subst hmc
        refine h (accA s us L n) (blk0 L hLi n (Nat.le_refl _)) (tmB (by rw [hLi,decide_eq_false (by omega)]))
def awpO(K c:Nat)(s0:St)(m:Nat)(X:Ctx)(all:Array Oper)(pre rest:List Oper)(Q:Exit->St->Prop)(s:St):Prop:=∃s1,PRunO X all K c s0 m pre s s1∧awpL X all rest Q s1
section
variable {X:Ctx} {all:Array Oper} {Q:Exit->St->Prop} {s s0:St} {o:Oper} {pre rest:List Oper} {K c m:Nat}
theorem awpO_nil(h:awpL X all rest Q s):awpO K c s0 m X all [] rest Q s:=⟨s,.nil,h⟩
theorem nb_ne{m c:Nat}(h:Nat.beq m c=false):m≠c:=fun e=>by subst e;rw [Nat.beq_refl] at h;cases h
theorem stepOP{d:Tmp}{C:Prop}{x:V}(mm:Bool)(hk:Nat.beq (opK o.op) 0=true)(hmc:Nat.beq m c=false)(hp:pinO all c m=true)(hg:gd all s o=some true)(hdst:o.dst=some d)(hd:qB5 X.N (some d)=true)(hq:qP5 X.T mm s o.op=some (C,x))(hC:C)(hfr:(qFb o||isSl o||qEs o)=true)(hb:s.blk=s0.blk)(k:awpO K c s0 (m+1) X all pre rest Q (s.put (some d) x)):awpO K c s0 m X all (o::pre) rest Q s:=by
 rw [←hdst] at hd k
 obtain ⟨s1,h1,h2⟩:=k
 refine ⟨s1,.reg (nb_ne hmc) hd (fun s' hs' hb'=>m_q mm ((qC3 hs').trans hg) ?_ hC) (.inl hp) h1,h2⟩
 rw [qGe] at hq ⊢
 rw [Bool.or_eq_true,Bool.or_eq_true] at hfr
 rcases hfr with (hfr|hfr)|hfr
 ·rw [qI6 hfr hs'];exact hq
 ·rw [qJs hfr hs'];exact hq
 ·exact qLn hfr hq hs' fun k b _ hbk=>by rw [hb' hp,←hb];exact hbk
theorem stepOF{d:Tmp}{C:Prop}{x:V}(mm:Bool)(hk:Nat.beq (opK o.op) 0=true)(hmc:Nat.beq m c=false)(hg:gd all s o=some true)(hdst:o.dst=some d)(hd:qB5 X.N (some d)=true)(hq:qP5 X.T mm s o.op=some (C,x))(hC:C)(hfr:(qFb o||isSl o)=true)(hx:x.noKey K=true)(hl:((o.looksAt all).all fun t=>(s0.tmps t).noKey K)=true)(k:awpO K c s0 (m+1) X all pre rest Q (s.put (some d) x)):awpO K c s0 m X all (o::pre) rest Q s:=by
 rw [←hdst] at hd k
 obtain ⟨s1,h1,h2⟩:=k
 refine ⟨s1,.reg (nb_ne hmc) hd (fun s' hs' hb'=>m_q mm ((qC3 hs').trans hg) ?_ hC) (.inr ⟨hx,fun t ht=>by rw [List.all_eq_true] at hl;exact hl t ht⟩) h1,h2⟩
 rw [qGe] at hq ⊢
 rw [Bool.or_eq_true] at hfr
 rcases hfr with hfr|hfr
 ·rw [qI6 hfr hs'];exact hq
 ·rw [qJs hfr hs'];exact hq
theorem stepOLit{d:Tmp}{e:TypeId}{sz len:Nat}{rows:List (List D)}(hkk:Nat.beq (opK o.op) 5=true)(hmc:Nat.beq m c=false)(hp:pinO all c m=true)(h:qO1 X.T s o.op=some (e,sz,len,rows))(hdst:o.dst=some d)(hg:gd all s o=some true)(hd:qB5 X.N (some d)=true)(k:awpO K c s0 (m+1) X all pre rest Q (s.put (some d) (.d (.sl sz (nth [] rows) 0 (iota len 0))))):awpO K c s0 m X all (o::pre) rest Q s:=by
 rw [←hdst] at hd k
 obtain ⟨s1,h1,h2⟩:=k
 refine ⟨s1,.reg (nb_ne hmc) hd (fun s' hs' _=>m_lit (e:=e) X.ok ((qC3 hs').trans hg) ?_) (.inl hp) h1,h2⟩
 have hop:=fun y hy=>qCc (s:=s) (s':=s') (o:=o) (all:=all) (y:=y) hy hs'
 revert h
 cases he:o.op with
 |buildSlice t n parts=>
  rw [he] at hop
  have e1:(parts.toList.map fun p=>(p.1,s'.opd p.2))=parts.toList.map fun p=>(p.1,s.opd p.2):=List.map_congr_left fun p hp=>by
   rw [hop p.2 (by simp only [Op.operands];simp;exact ⟨p.1,by simpa using hp⟩)]
  simp only [qO1,e1]
  exact id
 |_=>intro h;cases h
theorem stepOApp{d:Tmp}{td ed:TyD}{α:Type}{en:α->List D}{z:α}{l l2:List α}{t:TypeId}{cl:Call}{x y:Operand}{e:TypeId}{n:Nat}(hkk:Nat.beq (opK o.op) 3=true)(hmc:Nat.beq m c=true)(hop:o.op= .call cl)(hc:cl=⟨.builtin .append, #[x,y], #[t,t]⟩)(hdst:o.dst=some d)(hg:gd all s o=some true)(hd:qB5 X.N (some d)=true)(ht:X.T t=some td)(hds:td.desc= .slice e)(he:X.T e=some ed)(hx:s.opd x= .own K 0 n e ed.size)(hK:X.K.contains K=false)(hb0:s.blk=s0.blk)(hk:s.blk K=some (.data e ed.size en z l))(hz:qF0 ed=true)(hn:n=l.length)(hy:SrcB X s.blk (s.opd y) ed.size en z l2)(hb:l.length+l2.length≤9223372036854775807∧(l.length+l2.length)*ed.bytes≤140737488355328)(r:awpO K c s0 (m+1) X all pre rest Q ((s.new K (.data e ed.size en z (l++l2))).put (some d) (.own K 0 (l++l2).length e ed.size))):awpO K c s0 m X all (o::pre) rest Q s:=by
 obtain ⟨dst,op,ty,pos,after,g⟩:=o
 cases hop;cases hdst;subst hc
 obtain ⟨s1,h1,h2⟩:=r
 refine ⟨s1,.app (Nat.eq_of_beq_eq_true hmc) rfl (fun s' hb' htm=>?_) h1,h2⟩
 rw [←hb0] at hb'
 have e2:=qCc (o:=⟨some d,.call ⟨.builtin .append, #[x,y], #[t,t]⟩,ty,pos,after,g⟩) (all:=all) (y:=y) (by simp [Op.operands,Call.operands]) htm
 exact e_append X.ok ((qC3 htm).trans hg) hd ht hds he hK ((qCc (by simp [Op.operands,Call.operands]) htm).trans hx) (by rw [hb'];exact hk) hn (by rw [e2];exact hy s' hb') hz hb
theorem goO{G:Prop}{ops:List Oper}(k:G)(h:G->awpO K c s0 m X all ops rest Q s:=by
 first
 |exact Go.Vw.stepOF true Go.Vw.tt Go.Vw.ff Go.Vw.stt rfl rfl rfl Go.Vw.sc rfl rfl rfl
 |exact Go.Vw.stepOP true Go.Vw.tt Go.Vw.ff (by kernel_rfl) Go.Vw.stt rfl rfl rfl Go.Vw.sc rfl rfl
 |exact Go.Vw.awpO_nil
 |exact Go.Vw.stepOP false Go.Vw.tt Go.Vw.ff (by kernel_rfl) Go.Vw.stt rfl rfl rfl Go.Vw.sc rfl rfl
 |exact Go.Vw.stepOLit Go.Vw.tt Go.Vw.ff (by kernel_rfl) rfl rfl rfl rfl
 |exact Go.Vw.stepOApp Go.Vw.tt Go.Vw.tt rfl rfl rfl rfl rfl rfl rfl rfl rfl rfl rfl rfl rfl rfl Go.Vw.srcB Go.Vw.sc
 |fail):awpO K c s0 m X all ops rest Q s:=h k
theorem awp_regO(id n c K:Nat){ops:List Oper}(h:awpO K c s 0 X ops.toArray (ops.take n) (ops.drop n) Q s)(hm:X.P.follows .mixedOrders=true)(hok:ordO ops.toArray n c=true):awp X (.region id ops.toArray true) Q s:=by
 obtain ⟨s1,h1,h2⟩:=h
 exact qTh hm n c K hok h1 h2
end
def isBld(o:Oper):Bool:=match o.op with| .build .. =>true|_=>false
section
variable {X:Ctx} {all:Array Oper} {Q:Exit->St->Prop} {s s0:St} {o:Oper} {pre rest:List Oper} {K c m:Nat}
theorem evalQ_bld{T:TypeId->Option TyD}{mm:Bool}{s':St}(hm:isBld o=true)(h:∀t∈o.looksAt all,s'.tmps t=s.tmps t):qFy T mm s' o.op=qFy T mm s o.op:=by
 have hop:=fun y hy=>qCc (s:=s) (s':=s') (o:=o) (all:=all) (y:=y) hy h
 unfold isBld at hm
 split at hm
 ·rename_i t parts e
  rw [e] at hop ⊢
  have e1:(parts.toList.map fun p=>(p.1,s'.opd p.2))=parts.toList.map fun p=>(p.1,s.opd p.2):=List.map_congr_left fun p hp=>by
   rw [hop p.2 (by simp only [Op.operands];simp;exact ⟨p.1,by simpa using hp⟩)]
  simp only [qFy,e1]
 ·cases hm
theorem stepOPB{d:Tmp}{C:Prop}{x:V}(mm:Bool)(hk:isBld o=true)(hmc:Nat.beq m c=false)(hp:pinO all c m=true)(hg:gd all s o=some true)(hdst:o.dst=some d)(hd:qB5 X.N (some d)=true)(hq:qP5 X.T mm s o.op=some (C,x))(hC:C)(k:awpO K c s0 (m+1) X all pre rest Q (s.put (some d) x)):awpO K c s0 m X all (o::pre) rest Q s:=by
 rw [←hdst] at hd k
 obtain ⟨s1,h1,h2⟩:=k
 refine ⟨s1,.reg (nb_ne hmc) hd (fun s' hs' hb'=>m_q mm ((qC3 hs').trans hg) ?_ hC) (.inl hp) h1,h2⟩
 rw [qGe] at hq ⊢
 rw [evalQ_bld hk hs'];exact hq
end
end Go.Vw
namespace Go.Proofs.YtejigedigmagdaaGreat
open Go.Vw
attribute [local irreducible] awp awpL awpR qKb
theorem sg_zero{x:Rat}(h:x=0):x.num.sign=0:=by rw [h];rfl
theorem sg_ne{x:Rat}(h:x≠0):x.num.sign≠0:=fun e=>h (by
 have:=Int.sign_eq_zero_iff_zero.1 e
 exact Rat.num_eq_zero.1 this)
theorem cntV_cfn{p:List Rat}(tp:Tr p)(p0:p≠[])(a b:Rat):cntV p (a,b)=cfn p a b:=by
 unfold cntV
 rw [qAr tp,if_neg p0]
 unfold cfn
 rw [qAr tp]
theorem qNh{N P Q:Int}{x:List Rat}{r:Rat}(h:TkIn N P Q x r){j:Nat}(hp:qAj x r j≠[]):PolOk (qAj x r j)∧Tr (qAj x r j)∧∀a b, -100≤cfn (qAj x r j) a b∧cfn (qAj x r j) a b≤100:=by
 have lp:(qAj x r j).length≤6:=qHn _ _
 have tp:Tr (qAj x r j):=qLu _ _
 have hc:=(h.piece j).mono (qMs (qAj x r j).length).1
 refine ⟨qRh tp hp lp hc,tp,fun a b=>?_⟩
 obtain ⟨H,l,q1,q2,_⟩:=qJc tp hp lp hc
 unfold cfn cntF
 rw [qAr tp]
 have hl:=qHr qAz ((ctrQ (qAj x r j)).length+1) (ctrQ (qAj x r j)) (derP (ctrQ (qAj x r j)))
 have b1:=qK6 ((ctr (qAj x r j)).map fun f=>sgQ (qAb f a)) 0
 have b2:=qK6 ((ctr (qAj x r j)).map fun f=>sgQ (qAb f b)) 0
 rw [List.length_map] at b1 b2
 have hl2:(ctr (qAj x r j)).length≤7:=by unfold ctr;omega
 split
 ·unfold vrsF;omega
 ·decide
theorem ref22_inside(p:List Rat)(hp:PolOk p)(tp:Tr p)(p0:p≠[])(hb:∀a b, -100≤cfn p a b∧cfn p a b≤100)(y:I2)(oy:okI 150000 y)(f t:Rat)(of:okQ 150000 f)(ot:okQ 150000 t):Ret Tryz.prog 117 [qsD p,iQ y,qD f,qD t] (·= .int .i64 (insV p y f t)):=by
 have mx:=qTz y.1 f (oy.1.mono (by decide)) (of.mono (by decide))
 have mn:=qTy y.2 t (oy.2.mono (by decide)) (ot.mono (by decide))
 have ol:okQ 150000 (maxQ y.1 f):=by
  unfold maxQ
  split
  ·exact of
  ·exact oy.1
 have oh:okQ 150000 (minQ y.2 t):=by
  unfold minQ
  split
  ·exact ot
  ·exact oy.2
 unfold insV
 generalize maxQ y.1 f=lo at *
 generalize minQ y.2 t=hi at *
 have l1:=qEa hi lo (oh.mono (by decide)) (ol.mono (by decide))
 have l2:=qEa lo hi (ol.mono (by decide)) (oh.mono (by decide))
 have l3:=qEa f lo (of.mono (by decide)) (ol.mono (by decide))
 have ct:=ref05_CountV hp lo hi ol oh
 rw [cntV_cfn tp p0] at ct
 have cb:=hb lo hi
 have cm:=qLv hi t (oh.mono (by decide)) (ot.mono (by decide))
 obtain ⟨e1,oe1⟩:=qQ4 hp hi oh
 obtain ⟨e2,oe2⟩:=qQ4 hp lo ol
 have s1:=qD9 (qAb p hi) (oe1.mono (by decide))
 have s2:=qD9 (qAb p lo) (oe2.mono (by decide))
 have z1:qAb p hi=0->(qAb p hi).num.sign=0:=sg_zero
 have z1n:qAb p hi≠0->(qAb p hi).num.sign≠0:=sg_ne
 have z2:qAb p lo=0->(qAb p lo).num.sign=0:=sg_zero
 have z2n:qAb p lo≠0->(qAb p lo).num.sign≠0:=sg_ne
 generalize cfn p lo hi=n at *
 generalize qAb p hi=v at *
 generalize qAb p lo=w at *
 clear hp tp p0 oe1 oe2 ol oh of ot hb oy
 by_cases c1:hi<lo
 ·rw [if_pos c1]
  rw [decide_eq_true c1] at l1
  clear l2 l3 z1 z1n z2 z2n cb
  refine qAa tab Tryz.func117 rfl rfl (lblz rfl) (fun w0 F0=>?_)
  repeat' (first|refine wG ?_|refine wC mx ?_|refine wC mn ?_|refine wC l1 ?_|refine rgK 1 10 [9,10] ?_|refine wS ?_ ?_<;>intro _|refine finG ?_)
  rfl
 rw [if_neg c1]
 rw [decide_eq_false c1] at l1
 have cz:=cmpQ_zero hi t
 generalize cmpQ hi t=c at *
 by_cases c2:lo<hi
 ·rw [if_pos c2]
  rw [decide_eq_true c2] at l2
  obtain ⟨A,hA⟩:∃A:Int,A=(if hi=t∧v=0 then 1 else 0):=⟨_,rfl⟩
  rw [←hA]
  have cA:(c=0∧v.num.sign=0∧A=1)∨(c=0∧v.num.sign≠0∧A=0)∨(c≠0∧A=0):=by
   by_cases h1:hi=t
   ·by_cases h2:v=0
    ·rw [if_pos ⟨h1,h2⟩] at hA;exact .inl ⟨cz.2 h1,z1 h2,hA⟩
    ·rw [if_neg (fun k=>h2 k.2)] at hA;exact .inr (.inl ⟨cz.2 h1,z1n h2,hA⟩)
   ·rw [if_neg (fun k=>h1 k.1)] at hA;exact .inr (.inr ⟨fun k=>h1 (cz.1 k),hA⟩)
  generalize v.num.sign=s at *
  clear hA z1 z1n cz
  obtain ⟨B,hB⟩:∃B:Int,B=(if f<lo∧w=0 then 1 else 0):=⟨_,rfl⟩
  rw [←hB]
  have cB:(decide (f<lo)=true∧w.num.sign=0∧B=1)∨(decide (f<lo)=true∧w.num.sign≠0∧B=0)∨(decide (f<lo)=false∧B=0):=by
   by_cases h1:f<lo
   ·by_cases h2:w=0
    ·rw [if_pos ⟨h1,h2⟩] at hB;exact .inl ⟨decide_eq_true h1,z2 h2,hB⟩
    ·rw [if_neg (fun k=>h2 k.2)] at hB;exact .inr (.inl ⟨decide_eq_true h1,z2n h2,hB⟩)
   ·rw [if_neg (fun k=>h1 k.1)] at hB;exact .inr (.inr ⟨decide_eq_false h1,hB⟩)
  generalize w.num.sign=u at *
  generalize decide (f<lo)=bb at *
  clear hB z2 z2n c1 c2
  rcases cA with ⟨rfl,rfl,rfl⟩|⟨rfl,h,rfl⟩|⟨h,rfl⟩
  all_goals
   rcases cB with ⟨rfl,rfl,rfl⟩|⟨rfl,h',rfl⟩|⟨rfl,rfl⟩
   all_goals
    refine qAa tab Tryz.func117 rfl rfl (lblz rfl) (fun w0 F0=>?_)
    repeat' (first|refine wG ?_|refine wC mx ?_|refine wC mn ?_|refine wC l1 ?_|refine wC l2 ?_|refine wC l3 ?_|refine wC ct ?_|refine wC cm ?_|refine wC e1 ?_|refine wC e2 ?_|refine wC s1 ?_|refine wC s2 ?_|refine rgK 1 10 [9,10] ?_|refine wS ?_ ?_<;>intro _|refine finG ?_)
    all_goals first|rfl|exact congrArg (D.int .i64) (by omega)
 ·rw [if_neg c2]
  rw [decide_eq_false c2] at l2
  by_cases h1:hi=t
  ·rw [if_pos h1]
   rw [cz.2 h1] at cm
   clear cz z1 z1n z2 z2n c1 c2
   refine qAa tab Tryz.func117 rfl rfl (lblz rfl) (fun w0 F0=>?_)
   repeat' (first|refine wG ?_|refine wC mx ?_|refine wC mn ?_|refine wC l1 ?_|refine wC l2 ?_|refine wC cm ?_|refine rgK 1 10 [9,10] ?_|refine wS ?_ ?_<;>intro _|refine finG ?_)
   rfl
  ·rw [if_neg h1]
   have hc:c≠0:=fun k=>h1 (cz.1 k)
   obtain ⟨B,hB⟩:∃B:Int,B=(if f<lo∧w=0 then 1 else 0):=⟨_,rfl⟩
   rw [←hB]
   have cB:(decide (f<lo)=true∧w.num.sign=0∧B=1)∨(decide (f<lo)=true∧w.num.sign≠0∧B=0)∨(decide (f<lo)=false∧B=0):=by
    by_cases h1:f<lo
    ·by_cases h2:w=0
     ·rw [if_pos ⟨h1,h2⟩] at hB;exact .inl ⟨decide_eq_true h1,z2 h2,hB⟩
     ·rw [if_neg (fun k=>h2 k.2)] at hB;exact .inr (.inl ⟨decide_eq_true h1,z2n h2,hB⟩)
    ·rw [if_neg (fun k=>h1 k.1)] at hB;exact .inr (.inr ⟨decide_eq_false h1,hB⟩)
   generalize w.num.sign=u at *
   generalize decide (f<lo)=bb at *
   clear hB z2 z2n c1 c2 cz z1 z1n h1
   rcases cB with ⟨rfl,rfl,rfl⟩|⟨rfl,h',rfl⟩|⟨rfl,rfl⟩
   all_goals
    refine qAa tab Tryz.func117 rfl rfl (lblz rfl) (fun w0 F0=>?_)
    repeat' (first|refine wG ?_|refine wC mx ?_|refine wC mn ?_|refine wC l1 ?_|refine wC l2 ?_|refine wC l3 ?_|refine wC cm ?_|refine wC e2 ?_|refine wC s2 ?_|refine rgK 1 10 [9,10] ?_|refine wS ?_ ?_<;>intro _|refine finG ?_)
    all_goals first|rfl|exact congrArg (D.int .i64) (by omega)
theorem qTw(X:I2)(hX:X.1≤X.2)(oX:okI 150000 X):Ret Tryz.prog 114 [iQ X] (·=qD (mid2 X)):=by
 have h:=ref04_Mid (rq X.1) (rq X.2) ((qAs oX.1).up (by decide)) ((qAs oX.2).up (by decide))
 rw [qAw,qAw,qGx hX] at h
 exact h
theorem qQ6(i:I2)(hle:i.1≤i.2)(hi:okI 150000 i)(v:Rat)(hv:okQ 150000 v):Ret Tryz.prog 119 [iQ i,qD v] (·= .bool (qBo i v)):=by
 have h:=qQ7 i hle ⟨hi.1.mono (by decide),hi.2.mono (by decide)⟩ (rq v) ((qAs hv).up (by decide))
 rw [qAw] at h
 exact h
theorem pin_bd{N P Q:Int}{x:List Rat}{r:Rat}(h:TkIn N P Q x r)(y:I2)(j:Nat): -300≤pinV x r y j∧pinV x r y j≤300:=by
 unfold pinV
 by_cases hp:qAj x r j=[]
 ·rw [if_neg (fun k=>(qHh h.rp).1 k hp)];decide
 ·have b:=(qNh h hp).2.2 (maxQ y.1 ((qAc x r).getD j 0)) (minQ y.2 ((qAc x r).getD (j+1) 0))
  rw [if_pos ((qHh h.rp).2 hp)]
  unfold insV
  generalize cfn _ _ _=n at *
  split
  ·decide
  ·split
   ·split<;>split<;>omega
   ·split
    ·decide
    ·split<;>decide
theorem edg_bd{x:List Rat}{r:Rat}(y:I2)(j:Nat):0≤edgV x r y j∧edgV x r y j≤1:=by unfold edgV;split<;>decide
theorem win_bd{N P Q:Int}{x:List Rat}{r:Rat}(h:TkIn N P Q x r)(y:I2):∀n:Nat, -(400*(n:Int))≤winV x r y n∧winV x r y n≤400*(n:Int)
 |0=>by unfold winV;omega
 |n+1=>by
  have a:=win_bd h y n
  have b:=pin_bd h y n
  have c:=edg_bd (x:=x) (r:=r) y n
  rw [winV]
  omega
theorem qPg{N P Q:Int}{x:List Rat}{r:Rat}(h:TkIn N P Q x r)(y:I2)(ly:y.1≤y.2)(oy:okI 150000 y):Ret Tryz.prog 66 [qsD x,qD r,iQ y] (·= .int .i64 (winV x r y ((qAc x r).length-1))):=by
 have hl:=h.len
 have ox:=h.okx
 have or:=h.okr
 have rp:=h.rp
 have bk:=qKh x r (by omega) (fun v hv=>(ox v hv).mono (by decide)) (or.mono (by decide))
 have el:=qI7 x r
 have ep:=qDw (k:=r) h.ne
 have oe:∀j,okQ 2 ((qAc x r).getD j 0):=fun j=>qCv (fun v hv=>(h.ends v hv).1) (by decide) j
 have hab:∀j,j+1<(qAc x r).length->(qAc x r).getD j 0≤(qAc x r).getD (j+1) 0:=fun j hj=>Rat.le_of_lt (qCz (Nat.lt_succ_self j) hj)
 have om:∀j,okQ 1000 (mid2 ((qAc x r).getD j 0,(qAc x r).getD (j+1) 0)):=fun j=>by
  unfold mid2
  exact (((oe j).add (oe (j+1))).div (qGt (q:=2) (by decide+kernel)) (by decide+kernel)).mono (by decide)
 have md:=fun j (hj:j+1<(qAc x r).length)=>qTw ((qAc x r).getD j 0,(qAc x r).getD (j+1) 0) (hab j hj) ⟨(oe j).mono (by decide),(oe (j+1)).mono (by decide)⟩
 have a1:=fun j=>qHz x r (mid2 ((qAc x r).getD j 0,(qAc x r).getD (j+1) 0)) (by omega) (fun v hv=>(ox v hv).mono (by decide)) (or.mono (by decide)) (om j)
 have a2:=fun j=>qHz x r ((qAc x r).getD j 0) (by omega) (fun v hv=>(ox v hv).mono (by decide)) (or.mono (by decide)) ((oe j).mono (by decide))
 have sm:=fun j=>ref22_sum x r ((qAc x r).getD j 0) (by omega) (fun v hv=>(ox v hv).mono (by decide)) (or.mono (by decide)) ((oe j).mono (by decide)) rp
 have ct:=fun j=>qQ6 y ly oy ((qAc x r).getD j 0) ((oe j).mono (by decide))
 have po:=fun j=>qPw (actF x r (mid2 ((qAc x r).getD j 0,(qAc x r).getD (j+1) 0))) r (Nat.le_trans (act_len x r _) (by omega)) (fun v hv=>(ox v (act_mem hv)).mono (by decide)) (or.mono (by decide)) (Rat.ne_of_gt rp)
 have ins:=fun j (hp:qAj x r j≠[])=>ref22_inside (qAj x r j) (qNh h hp).1 (qNh h hp).2.1 hp (qNh h hp).2.2 y oy ((qAc x r).getD j 0) ((qAc x r).getD (j+1) 0) ((oe j).mono (by decide)) ((oe (j+1)).mono (by decide))
 have cP:∀j,(0<(actF x r (mid2 ((qAc x r).getD j 0,(qAc x r).getD (j+1) 0))).length∧qAj x r j≠[]∧pinV x r y j=insV (qAj x r j) y ((qAc x r).getD j 0) ((qAc x r).getD (j+1) 0))∨((actF x r (mid2 ((qAc x r).getD j 0,(qAc x r).getD (j+1) 0))).length=0∧pinV x r y j=0):=fun j=>by
  by_cases c:actF x r (mid2 ((qAc x r).getD j 0,(qAc x r).getD (j+1) 0))=[]
  ·right
   refine ⟨by rw [c];rfl,?_⟩
   unfold pinV
   rw [if_neg (fun k=>k c)]
  ·left
   refine ⟨List.length_pos_iff.2 c,(qHh rp).1 c,?_⟩
   unfold pinV
   rw [if_pos c]
 have cE:∀j,(j=0∧edgV x r y j=0)∨(0<j∧qBo y ((qAc x r).getD j 0)=false∧edgV x r y j=0)∨(0<j∧qBo y ((qAc x r).getD j 0)=true∧(actF x r ((qAc x r).getD j 0)).length=0∧edgV x r y j=0)∨(0<j∧qBo y ((qAc x r).getD j 0)=true∧0<(actF x r ((qAc x r).getD j 0)).length∧(sumV (actF x r ((qAc x r).getD j 0)) (1/(r*r)) ((qAc x r).getD j 0)).num.sign≠0∧edgV x r y j=0)∨(0<j∧qBo y ((qAc x r).getD j 0)=true∧0<(actF x r ((qAc x r).getD j 0)).length∧(sumV (actF x r ((qAc x r).getD j 0)) (1/(r*r)) ((qAc x r).getD j 0)).num.sign=0∧edgV x r y j=1):=fun j=>by
  by_cases c1:j=0
  ·exact .inl ⟨c1,by unfold edgV;rw [if_neg (by omega)]⟩
  have c1':0<j:=by omega
  have ce:qBo y ((qAc x r).getD j 0)=true↔(y.1≤(qAc x r).getD j 0∧(qAc x r).getD j 0≤y.2):=by
   unfold qBo
   rw [Bool.and_eq_true,decide_eq_true_eq,decide_eq_true_eq]
  by_cases c2:qBo y ((qAc x r).getD j 0)=true
  ·by_cases c3:actF x r ((qAc x r).getD j 0)=[]
   ·exact .inr (.inr (.inl ⟨c1',c2,by rw [c3];rfl,by unfold edgV;rw [if_neg (fun k=>k.2.2.1 c3)]⟩))
   ·by_cases c4:sumV (actF x r ((qAc x r).getD j 0)) (1/(r*r)) ((qAc x r).getD j 0)=0
    ·exact .inr (.inr (.inr (.inr ⟨c1',c2,List.length_pos_iff.2 c3,sg_zero c4,by unfold edgV;rw [if_pos ⟨c1',ce.1 c2,c3,c4⟩]⟩)))
    ·exact .inr (.inr (.inr (.inl ⟨c1',c2,List.length_pos_iff.2 c3,sg_ne c4,by unfold edgV;rw [if_neg (fun k=>c4 k.2.2.2)]⟩)))
  ·exact .inr (.inl ⟨c1',Bool.eq_false_iff.2 c2,by unfold edgV;rw [if_neg (fun k=>c2 (ce.2 k.2.1))]⟩)
 have wb:=win_bd h y
 have w00:winV x r y 0=0:=rfl
 have wS:∀j,winV x r y (j+1)=winV x r y j+pinV x r y j+edgV x r y j:=fun j=>rfl
 have pb:=pin_bd h y
 obtain ⟨PP,hPP⟩:∃PP:Nat->List Rat,∀j,qAj x r j=PP j:=⟨fun j=>qAj x r j,fun _=>rfl⟩
 have po':∀j,Ret Tryz.prog 118 [qsD (actF x r (mid2 ((qAc x r).getD j 0,(qAc x r).getD (j+1) 0))),qD r] (·=qsD (PP j)):=fun j=>by rw [←hPP];exact po j
 simp only [hPP] at ins cP
 clear po hPP h om hab ox or oe
 generalize hW:winV x r y=W at *
 generalize hpi:pinV x r y=Pi at *
 generalize hed:edgV x r y=Ed at *
 clear hW hpi hed
 generalize qAc x r=q at *
 refine qAa tab Tryz.func66 rfl rfl (lblz rfl) (fun w0 F0=>?_)
 repeat' (first|refine wG ?_|refine wC bk ?_|refine rgK 6 12 [10] ?_|refine rg 9 15 ?_|refine rg 10 28 ?_|refine wS ?_ ?_<;>intro _|refine finG ?_)
 refine qAi (fun (j:Nat)=>([(0,.d (qsD x)),(4,.ptr 4 0),(5,.ptr 5 0),(7,.d (qsD q)),(8,.d (.int .i64 (W j))),(9,.d (.int .i64 j))],[(4,.box 27 ((rC (rq r)).map V.d)),(5,.box 32 ((iC (rq y.1) (rq y.2)).map V.d))])) (fun j=>j+1≤q.length) (fun j=>q.length-j) 0 (by omega) ⟨rfl,rfl,rfl,rfl,(by rw [w00];rfl),rfl,rfl⟩ ⟨rfl,rfl,trivial⟩ (fun j hj=>?_)
 by_cases h3:j+1<q.length
 ·have md:=md j h3
  have a1:=a1 j
  have a2:=a2 j
  obtain ⟨sm,os⟩:=sm j
  have ct:=ct j
  have po:=po' j
  have ins:=ins j
  have cP:=cP j
  have cE:=cE j
  have wb:=wb j
  have wS:=wS j
  have pb:=pb j
  have sg:=qD9 _ (os.mono (show 500000≤10000000 by decide))
  clear po' os
  generalize Pi j=p1 at *
  generalize Ed j=e1 at *
  generalize PP j=pp at *
  generalize actF x r (mid2 (q.getD j 0,q.getD (j+1) 0))=l1 at *
  generalize mid2 (q.getD j 0,q.getD (j+1) 0)=m at *
  generalize hv:sumV (actF x r (q.getD j 0)) (1/(r*r)) (q.getD j 0)=v at *
  generalize actF x r (q.getD j 0)=l2 at *
  generalize v.num.sign=sv at *
  generalize qBo y (q.getD j 0)=cb at *
  clear hv
  rcases cP with ⟨d1,d2,rfl⟩|⟨d1,rfl⟩
  ·have ins:=ins d2
   generalize insV pp y (q.getD j 0) (q.getD (j+1) 0)=iv1 at *
   rcases cE with ⟨k0,rfl⟩|⟨k1,rfl,rfl⟩|⟨k1,rfl,k2,rfl⟩|⟨k1,rfl,k2,k3,rfl⟩|⟨k1,rfl,k2,rfl,rfl⟩
   all_goals
    repeat' (first|refine wG ?_|refine wC md ?_|refine wC a1 ?_|refine wC a2 ?_|refine wC po ?_|refine wC ins ?_|refine wC ct ?_|refine wC sm ?_|refine wC sg ?_|refine rgK 6 12 [10] ?_|refine rg 9 15 ?_|refine rg 10 28 ?_|refine wS ?_ ?_<;>intro _|refine finG ?_)
    exact ⟨j+1,by omega,by omega,⟨rfl,rfl,rfl,rfl,iv (by omega),iv (by omega),rfl⟩,rfl,rfl,trivial⟩
  ·clear ins
   rcases cE with ⟨k0,rfl⟩|⟨k1,rfl,rfl⟩|⟨k1,rfl,k2,rfl⟩|⟨k1,rfl,k2,k3,rfl⟩|⟨k1,rfl,k2,rfl,rfl⟩
   all_goals
    repeat' (first|refine wG ?_|refine wC md ?_|refine wC a1 ?_|refine wC a2 ?_|refine wC po ?_|refine wC ct ?_|refine wC sm ?_|refine wC sg ?_|refine rgK 6 12 [10] ?_|refine rg 9 15 ?_|refine rg 10 28 ?_|refine wS ?_ ?_<;>intro _|refine finG ?_)
    exact ⟨j+1,by omega,by omega,⟨rfl,rfl,rfl,rfl,iv (by omega),iv (by omega),rfl⟩,rfl,rfl,trivial⟩
 ·have e:j=q.length-1:=by omega
  subst e
  clear md a1 a2 sm ct po' ins cP cE wb wS pb w00
  repeat' (first|refine wG ?_|refine rgK 6 12 [10] ?_|refine rg 9 15 ?_|refine rg 10 28 ?_|refine wS ?_ ?_<;>intro _|refine finG ?_)
  rfl
end Go.Proofs.YtejigedigmagdaaGreat
