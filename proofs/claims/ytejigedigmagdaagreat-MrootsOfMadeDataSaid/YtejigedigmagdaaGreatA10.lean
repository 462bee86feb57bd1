/-
 Contracts of functions of the program, and the layer that they are walked with: Y11 Y12 N13 N14 N16 N17 N18 Y13 C10 Y14 S60 S61 N19 Y15 Z02 Z03 Z04 Z07 Y16 VMk S63 S64 Y17 Y18 Y19 Y20 Y21 Y22 Y23 Y24 Y25 Y26 Y27 Y28. Conditions: as each says.
-/
import Derived.Test.YtejigedigmagdaaGreatA09
set_option linter.unnecessarySimpa false
set_option linter.unusedVariables false
set_option linter.unusedSimpArgs false
set_option maxHeartbeats 8000000
namespace Go.Proofs.YtejigedigmagdaaGreat
open Go.Vw
attribute [local irreducible] awp awpL awpR
theorem qRf(a:List R3)(d:List Rat){h l:Nat}(hd:Tr d)(d0:d≠[])(lp:a.length≤100)(ka:∀r∈a,RatOk r 10000000)(ld:d.length≤100)(H:HtP h (qAd (a.map rv)))(L:HtP l d)(hb:h+((qAd (a.map rv)).length+1-d.length)*l+l≤2000000):Ret Tryz.prog 151 [rsD a,qsD d] (·= .tup [qsD (divP (qAd (a.map rv)) d).1,qsD (divP (qAd (a.map rv)) d).2,.int .i64 0]):=by
 have h1:=HtP.gt H
 obtain ⟨N,hN⟩:∃N,(qAd (a.map rv)).length+1-d.length=N:=⟨_,rfl⟩
 rw [hN] at hb
 obtain ⟨K,hK⟩:∃K,K=h+N*l+l:=⟨_,rfl⟩
 have hv:=qLy a (d.map rq) K (fun r=>∃k,k+(r.length+1-d.length)≤N∧HtP (h+k*l) r) lp (by rw [List.length_map];exact ld) ka (qBq fun x hx=>(L.okL x hx).mono (by omega)) (by rw [qAf,qAr hd];exact d0)
  ⟨0,by omega,H.mono (by omega)⟩
  (by
   rw [qAf,qAr hd]
   rintro r ⟨k,hk,hr⟩ tr hle
   refine ⟨k+1,?_,?_⟩
   ·have:=qE6 tr hd d0 hle;omega
   ·have:=hr.stepRP L (qCo hd d0)
    refine this.mono ?_
    rw [Nat.add_mul,Nat.one_mul];omega)
  (by
   rintro r ⟨k,hk,hr⟩ x hx
   refine (hr.okL x hx).mono ?_
   have:=Nat.mul_le_mul_right l (show k≤N by omega)
   omega) (by omega) (by omega)
 rw [qAf,qAr hd] at hv
 exact hv.args (LeT.cons (LeD.refl _) (qCw d (LeT.refl _)))
theorem qOk(fid:FuncId)(ch:List Rat->List Rat)(hc:ChOk ch)(hf:∀p,Tr p->p.length≤100->(∀x∈p,okQ 5000000 x)->Ret Tryz.prog fid [qsD p] (·=qsD (ch p)))(P:List R3)(hP:P.length≤100)(kP:∀r∈P,RatOk r 5000000)(M:Nat)(hJ:JS (qAd (P.map rv)) (derP (P.map rv)) M):Ret Tryz.prog 186 [rsD P,.fn fid []] (·=qssD (qBf ch (P.length+1) (qAd (P.map rv)) (derP (P.map rv)))):=by
 have l1:=qAu (P.map rv)
 have l2:(derP (P.map rv)).length≤(derC (P.map rv)).length:=qAu (derC (P.map rv))
 rw [qH8] at l2
 rw [List.length_map] at l1 l2
 refine qPy fid ch (fun a b=>a.length≤100∧b.length≤100∧∃M,JS a b M) P hP kP ⟨by omega,by omega,M,hJ⟩ (fun a b hab a0 b0=>?_) (fun a b h=>⟨h.1,h.2.1⟩)
 obtain ⟨g1,g2,M,g3⟩:=hab
 obtain ⟨h1,_,h3,h4,h5⟩:=g3.rem a0 b0
 have tr:=qEl g3.ta g3.tb b0
 have hl:=qC4 g3.ta g3.tb b0
 have nl:(negC (remP a b)).length=(remP a b).length:=qBd _ _
 have o1:∀x∈remP a b,okQ 5000000 x:=fun x hx=>(h1.okL x hx).mono (by omega)
 have o2:∀x∈negC (remP a b),okQ 5000000 x:=fun x hx=>(h1.neg.okL x hx).mono (by omega)
 refine ⟨⟨_,qHg a b g3.ta g3.tb b0 g1 g2 g3.ha g3.hb h3⟩,qLr _ tr (by omega) o1,hf _ (qJ2 tr) (by omega) o2,⟨g2,?_,g3.next hc a0 b0⟩,?_⟩
 ·rw [hc.len,nl];omega
 ·rw [hc.len,nl];exact hl
theorem qRe(a b:List R3)(ha:a.length≤99)(hb:b.length≤99)(ka:∀r∈a,RatOk r 10000000)(kb:∀r∈b,RatOk r 10000000)(hJ:JG (qAd (a.map rv)) (qAd (b.map rv))):Ret Tryz.prog 184 [rsD a,rsD b] (·=qsD (gcdP (qAd (a.map rv)) (qAd (b.map rv)))):=by
 have l1:=qAu (a.map rv)
 have l2:=qAu (b.map rv)
 rw [List.length_map] at l1 l2
 have sc:∀p M,Tr p->p≠[]->p.length≤100->HtP M p->M≤2000000->Ret Tryz.prog 205 [qsD p,qD (p.getD ((p.length:Int)-1).toNat 0)] (·=qsD (qA7 p)):=fun p M t p0 pl hM hle=>by
  have e1:((p.length:Int)-1).toNat=p.length-1:=by have:=qA2 p0;omega
  rw [e1]
  exact qH2 p (lead p) (by omega) (fun x hx=>(hM.okL x hx).mono (by omega)) ((hM.ok _).mono (by omega)) (qCo t p0)
 have fitM:∀M n,(M+1)*3^n≤Bud->M≤2000000:=fun M n h=>by
  have:=Nat.mul_le_mul_left (M+1) (show 1≤3^n from Nat.pow_pos (by decide))
  unfold Bud at h
  omega
 refine qS5 a b (fun p q=>p.length≤100∧q.length≤100∧JG p q) (by omega) (by omega) ka kb ⟨by omega,by omega,hJ⟩ (fun p q h=>⟨h.2.2.tp,h.2.2.tq,by omega,by omega⟩) (fun p hp p0=>?_) (fun p q h q0=>?_)
 ·obtain ⟨q,⟨g1,g2,g3⟩|⟨g1,g2,g3⟩⟩:=hp
  ·obtain ⟨M,h1,h2,h3⟩:=g3.fit
   exact sc p M g3.tp p0 g1 h1 (fitM _ _ h3)
  ·obtain ⟨M,h1,h2,h3⟩:=g3.fit
   exact sc p M g3.tq p0 g2 h2 (fitM _ _ h3)
 ·obtain ⟨g1,g2,g3⟩:=h
  obtain ⟨M,h1,h2,h3,h4⟩:=g3.step q0
  have hl:=qC4 g3.tp g3.tq q0
  exact ⟨⟨_,qHg p q g3.tp g3.tq q0 g1 g2 h1 h2 h3⟩,by rw [show (qA7 q).length=q.length from qBd _ _];exact g2,by omega,h4⟩
def qAz(p:List Rat):List Rat:=smul (1/absQ (lead p)) p
theorem smallP_eq(p:List Rat):qAz p=if lead p<0 then negC (qA7 p) else qA7 p:=by
 unfold qAz absQ qA7 negC
 split
 ·rename_i h
  rw [qIr]
  congr 1
  have h0:lead p≠0:=fun e=>by rw [e] at h;exact absurd h (by decide)
  have h1:lead p*(lead p)⁻¹=1:=Rat.mul_inv_cancel _ h0
  have h2: -lead p*(-lead p)⁻¹=1:=Rat.mul_inv_cancel _ (fun e=>h0 (by grind))
  rw [Rat.div_def,Rat.div_def]
  have h3:(-lead p)⁻¹=(lead p*(lead p)⁻¹)*(-lead p)⁻¹:=by rw [h1,Rat.one_mul]
  have h4:(lead p*(lead p)⁻¹)*(-lead p)⁻¹= -((-lead p*(-lead p)⁻¹)*(lead p)⁻¹):=by grind
  rw [h2] at h4
  rw [h3,h4]
  grind
 ·rfl
theorem chOk_small:ChOk qAz:=⟨fun p h=>by
    rw [smallP_eq];split
    · exact qJ2 (qEv h)
    · exact qEv h,fun p=>qBd _ _,fun p h t H=>by
    rw [smallP_eq];split
    · exact H.monic.neg
    · exact H.monic⟩
theorem qMl{p:List Rat}{x:Rat}{K L:Nat}(hp:∀y∈p,okQ K y)(hx:okQ L x)(hK:1<K):∀k,k≤p.length->okQ (2+k*(K+L)) (qKa p x k)
 |0,_=>by rw [qR3];exact qB9 (by omega)
 |k+1,h=>by
  rw [qR4 (by omega)]
  have:=((qMl hp hx hK k (by omega)).mul hx).add (qCv hp hK (p.length-1-k))
  refine okQ.mono this ?_
  rw [Nat.add_mul];omega
theorem qP2(f:List Rat)(x:R3){M:Nat}(hf:Fit f.length f M)(hl:f.length≤13)(hx:RatOk x 200000):Ret Tryz.prog 60 [qsD f,rD x] (·=qD (qAb f (rv x)))∧okQ 10000000 (qAb f (rv x)):=by
 obtain ⟨h1,h2⟩:=hf
 have m1:=HtP.gt h1
 have hk:f.length*M≤2000000:=by
  have a1:=Nat.mul_le_mul (show M≤M+1 by omega) (Nat.le_trans (Nat.le_succ f.length) (qJl f.length))
  rw [Nat.mul_comm] at a1
  unfold Bud at h2
  omega
 have hM:M≤2000000:=by
  have:=Nat.mul_le_mul_left (M+1) (show 1≤3^f.length from Nat.pow_pos (by decide))
  unfold Bud at h2
  omega
 have ho:∀k,k≤f.length->okQ 5000000 (qKa f (rv x) k):=fun k hk2=>by
  refine (qMl h1.okL (qAx hx (by decide)) m1 k hk2).mono ?_
  have a1:=Nat.mul_le_mul_right M hk2
  have a2:=Nat.mul_le_mul_right 200000 hk2
  rw [Nat.mul_add]
  omega
 have he:=qKq (f.map rq) x (by rw [List.length_map];omega) (qBq fun y hy=>(h1.okL y hy).mono (by omega)) (hx.up (by decide)) (by rw [qAf,List.length_map];exact ho)
 rw [qAf] at he
 refine ⟨he.args (qCw f (LeT.refl _)),?_⟩
 have:=ho f.length (Nat.le_refl _)
 rw [qJp] at this
 exact this.mono (by decide)
theorem derP_trim(p:List Rat):derP (qAd p)=derP p:=qEg fun i=>by rw [qGo,qGo,qBi]
def ctrQ(p:List Rat):List Rat:=(divP p (gcdP p (derP p))).1
def ctr(p:List Rat):List (List Rat):=qBf qAz ((ctrQ p).length+1) (ctrQ p) (derP (ctrQ p))
structure CtrOk (p:List Rat):Prop where
 g0:gcdP p (derP p)≠[]
 tg:Tr (gcdP p (derP p))
 jg:JG p (derP p)
 gl:(gcdP p (derP p)).length≤98
 fit1:∃h l,HtP h p∧HtP l (gcdP p (derP p))∧h+(p.length+1-(gcdP p (derP p)).length)*l+l≤2000000
 ql:(ctrQ p).length≤98
 fit2:∃M,JS (ctrQ p) (derP (ctrQ p)) M
theorem qGi(P:List R3)(hP:P.length≤99)(kP:∀r∈P,RatOk r 5000000)(hc:CtrOk (qAd (P.map rv))):Ret Tryz.prog 153 [rsD P] (·=qssD (ctr (qAd (P.map rv)))):=by
 have d1:=qGj P (by omega) kP
 rw [←derP_trim] at d1
 have hdl:(derP (qAd (P.map rv))).length≤99:=by
  have h1:=qAu (derC (qAd (P.map rv)))
  have h2:=qAu (P.map rv)
  rw [qH8] at h1
  rw [List.length_map] at h2
  show (qAd (derC _)).length≤99
  omega
 obtain ⟨M,m1,m2,m3⟩:=hc.jg.fit
 have hM:M≤2000000:=by
  have:=Nat.mul_le_mul_left (M+1) (show 1≤3^(if (derP (qAd (P.map rv))).length<(qAd (P.map rv)).length then (qAd (P.map rv)).length else (derP (qAd (P.map rv))).length+1) from Nat.pow_pos (by decide))
  unfold Bud at m3
  omega
 have g1:=qRe P ((derP (qAd (P.map rv))).map rq) hP (by rw [List.length_map];exact hdl) (fun r hr=>(kP r hr).up (by decide)) (qBq fun x hx=>(m2.okL x hx).mono (by omega)) (by rw [qAf,show qAd (derP (qAd (P.map rv)))=derP (qAd (P.map rv)) from qIp _];exact hc.jg)
 rw [qAf,show qAd (derP (qAd (P.map rv)))=derP (qAd (P.map rv)) from qIp _] at g1
 have g2:Ret Tryz.prog 184 [rsD P,qsD (derP (qAd (P.map rv)))] (·=qsD (gcdP (qAd (P.map rv)) (derP (qAd (P.map rv))))):=g1.args (LeT.cons (LeD.refl _) (qCw _ (LeT.refl _)))
 obtain ⟨h,l,f1,f2,f3⟩:=hc.fit1
 have v1:=qRf P (gcdP (qAd (P.map rv)) (derP (qAd (P.map rv)))) hc.tg hc.g0 (by omega) (fun r hr=>(kP r hr).up (by decide)) (by have:=hc.gl;omega) f1 f2 f3
 obtain ⟨M2,f4⟩:=hc.fit2
 have ql:=hc.ql
 have hM2:M2≤2000000:=by
  have b:=f4.bud
  have:=Nat.mul_le_mul_left (M2+1) (show 1≤3^(ctrQ (qAd (P.map rv))).length from Nat.pow_pos (by decide))
  unfold Bud at b
  omega
 have s1:=qOk 187 qAz chOk_small (fun p t pl ok=>qPz p (by omega) ok t) ((ctrQ (qAd (P.map rv))).map rq) (by rw [List.length_map];omega) (qBq fun x hx=>(f4.ha.okL x hx).mono (by omega)) M2 (by rw [qAf,qAr f4.ta];exact f4)
 rw [qAf,qAr f4.ta,List.length_map] at s1
 have s2:Ret Tryz.prog 186 [qsD (ctrQ (qAd (P.map rv))),.fn 187 []] (·=qssD (ctr (qAd (P.map rv)))):=s1.args (qCw _ (LeT.refl _))
 rw [show (divP (qAd (P.map rv)) (gcdP (qAd (P.map rv)) (derP (qAd (P.map rv))))).1=ctrQ (qAd (P.map rv)) from rfl] at v1
 clear hc f1 f2 f3 f4 m1 m2 m3 g1 s1 kP ql hdl
 generalize ctr (qAd (P.map rv))=C at *
 generalize ctrQ (qAd (P.map rv))=Q at *
 generalize (divP (qAd (P.map rv)) (gcdP (qAd (P.map rv)) (derP (qAd (P.map rv))))).2=Z at *
 generalize gcdP (qAd (P.map rv)) (derP (qAd (P.map rv)))=G at *
 generalize derP (qAd (P.map rv))=E at *
 refine qAa tab Tryz.func153 rfl rfl (lblz rfl) (fun w0 F0=>?_)
 repeat' (first|refine wG ?_|refine wC d1 ?_|refine wC g2 ?_|refine wC v1 ?_|refine wC s2 ?_|refine wS ?_ ?_<;>intro _|refine finG ?_)
 rfl
def vrsF(F:List (List Rat))(x:Rat):Int:=chg 0 (F.map fun f=>sgQ (qAb f x))
def cntF(F:List (List Rat))(lo hi:Rat):Int:=if lo<hi then vrsF F lo-vrsF F hi else 0
theorem qK6:∀(l:List Int) (a:Int),0≤chg a l∧chg a l≤l.length
 |[],_=>⟨Int.le_refl _,Int.le_refl _⟩
 |s::l,a=>by
  rw [chg]
  have:=qK6 l (if s≠0 then s else a)
  simp only [List.length_cons]
  split<;>omega
theorem qN0(F:List (List Rat))(lo hi:R3)(hF:F.length≤1000)(hf:∀f∈F,f.length≤13∧∃M,Fit f.length f M)(kl:RatOk lo 200000)(kh:RatOk hi 200000):Ret Tryz.prog 188 [qssD F,rD lo,rD hi] (·= .int .i64 (cntF F (rv lo) (rv hi))):=by
 have gF:∀i,i<F.length->F.getD i []∈F:=fun i hi=>by
  rw [List.getD_eq_getElem?_getD,List.getElem?_eq_getElem hi];exact List.getElem_mem hi
 have ch:∀x,RatOk x 200000->Ret Tryz.prog 207 [qssD F,rD x] (·= .int .i64 (vrsF F (rv x))):=fun x hx=>qSj F x hF fun i hi=>by
  obtain ⟨h1,M,h2⟩:=hf _ (gF i hi)
  exact qP2 _ x h2 h1 hx
 have c1:=ch lo kl
 have c2:=ch hi kh
 have cm:=qDu lo hi (kl.up (by decide)) (kh.up (by decide))
 have b1:0≤vrsF F (rv lo)∧vrsF F (rv lo)≤1000:=by
  have:=qK6 (F.map fun f=>sgQ (qAb f (rv lo))) 0
  rw [List.length_map] at this
  unfold vrsF;omega
 have b2:0≤vrsF F (rv hi)∧vrsF F (rv hi)≤1000:=by
  have:=qK6 (F.map fun f=>sgQ (qAb f (rv hi))) 0
  rw [List.length_map] at this
  unfold vrsF;omega
 unfold cntF
 unfold cmpQ at cm
 generalize vrsF F (rv lo)=n1 at *
 generalize vrsF F (rv hi)=n2 at *
 clear ch hf gF
 by_cases h:rv lo<rv hi
 ·rw [if_pos h]
  rw [if_pos h] at cm
  refine qAa tab Tryz.func188 rfl rfl (lblz rfl) (fun w0 F0=>?_)
  repeat' (first|refine wG ?_|refine wC cm ?_|refine wC c1 ?_|refine wC c2 ?_|refine rg 3 5 ?_|refine wS ?_ ?_<;>intro _|refine finG ?_)
  rfl
 ·rw [if_neg h]
  rw [if_neg h] at cm
  obtain ⟨z,hz⟩:∃z:Int,z=(if rv hi<rv lo then 1 else 0):=⟨_,rfl⟩
  rw [←hz] at cm
  have z0:0≤z:=by rw [hz];split<;>decide
  clear hz
  refine qAa tab Tryz.func188 rfl rfl (lblz rfl) (fun w0 F0=>?_)
  repeat' (first|refine wG ?_|refine wC cm ?_|refine wC c1 ?_|refine wC c2 ?_|refine rg 3 5 ?_|refine wS ?_ ?_<;>intro _|refine finG ?_)
  rfl
theorem qP3(P:List R3)(lo hi:R3)(hP:P.length≤99)(kP:∀r∈P,RatOk r 5000000)(hc:qAd (P.map rv)≠[]->CtrOk (qAd (P.map rv)))(kl:RatOk lo 200000)(kh:RatOk hi 200000):Ret Tryz.prog 155 [rsD P,rD lo,rD hi] (·= .int .i64 (if qAd (P.map rv)=[] then-1 else cntF (ctr (qAd (P.map rv))) (rv lo) (rv hi))):=by
 have t1:=qBb P (by omega) (fun r hr=>(kP r hr).up (by decide))
 have l1:=qAu (P.map rv)
 rw [List.length_map] at l1
 by_cases h0:qAd (P.map rv)=[]
 ·rw [if_pos h0]
  have hl:(qAd (P.map rv)).length=0:=by rw [h0];rfl
  generalize qAd (P.map rv)=p at *
  clear kP hc
  refine qAa tab Tryz.func155 rfl rfl (lblz rfl) (fun w0 F0=>?_)
  repeat' (first|refine wG ?_|refine wC t1 ?_|refine rg 3 4 ?_|refine wS ?_ ?_<;>intro _|refine finG ?_)
  rfl
 ·rw [if_neg h0]
  have hl:=qA2 h0
  have hk:=hc h0
  have n1:=qGi P hP kP hk
  obtain ⟨M,f⟩:=hk.fit2
  have hfit:=f.chain chOk_small ((ctrQ (qAd (P.map rv))).length+1)
  have cln:=qHr qAz ((ctrQ (qAd (P.map rv))).length+1) (ctrQ (qAd (P.map rv))) (derP (ctrQ (qAd (P.map rv))))
  have ql:=hk.ql
  have c1:=qN0 (ctr (qAd (P.map rv))) lo hi (by unfold ctr;omega) (fun g hg=>by
   obtain ⟨g1,M',g2⟩:=hfit g hg
   refine ⟨?_,M',g2⟩
   have b:=g2.2
   have b2:=qJl g.length
   by_cases g0:g.length≤13
   ·omega
   ·exfalso
    have b3:=Nat.pow_le_pow_right (show 0<3 by decide) (show 14≤g.length by omega)
    have b4:=Nat.mul_le_mul_right (3^g.length) (show 1≤M'+1 by omega)
    have b5:(3:Nat)^14=4782969:=by decide
    unfold Bud at b
    omega) kl kh
  generalize cntF (ctr (qAd (P.map rv))) (rv lo) (rv hi)=v at *
  generalize ctr (qAd (P.map rv))=C at *
  generalize qAd (P.map rv)=p at *
  clear kP hc hk f hfit
  refine qAa tab Tryz.func155 rfl rfl (lblz rfl) (fun w0 F0=>?_)
  repeat' (first|refine wG ?_|refine wC t1 ?_|refine wC n1 ?_|refine wC c1 ?_|refine rg 3 4 ?_|refine wS ?_ ?_<;>intro _|refine finG ?_)
  rfl
theorem qS0(v:Int)(h1: -9223372036854775808≤v)(h2:v<9223372036854775808):Ret Tryz.prog 27 [.int .i64 v] (·=qD (v:Rat)):=by
 have:=qM9 v h1 h2
 rw [←rq_int] at this
 exact this
theorem ref04_Valid(a b:R3)(ha:RatOk a 200000)(hb:RatOk b 200000):Ret Tryz.prog 63 [iD a b] (·= .bool (qFe a&&qFe b&&decide (rv a≤rv b))):=by
 have h1:=qMd a (ha.up (by decide))
 have h2:=qMd b (hb.up (by decide))
 have hl:=qEh b a (hb.up (by decide)) (ha.up (by decide))
 rw [show decide (rv a≤rv b)= !decide (rv b<rv a) by rw [←decide_not];exact decide_eq_decide.2 Rat.not_lt.symm]
 generalize decide (rv b<rv a)=z at *
 generalize qFe a=x at *
 generalize qFe b=y at *
 cases x<;>cases y<;>cases z
 all_goals
  refine qAa tab Tryz.func63 rfl rfl (lblz rfl) (fun w0 F0=>?_)
  repeat' (first|refine wG ?_|refine wC h1 ?_|refine wC h2 ?_|refine wC hl ?_|refine wS ?_ ?_<;>intro _|refine finG ?_)
  rfl
theorem okR_of{q:Rat}{k:Nat}(h:okQ k q)(hk:k≤1000000000000):okR 1000000000000 (rq q):=⟨Nat.lt_of_lt_of_le (qAs h).lm hk,Nat.lt_of_lt_of_le (qAs h).ld hk⟩
theorem ref04_Same(a b c d:R3)(ha:okR 1000000000000 a)(hb:okR 1000000000000 b)(hc:okR 1000000000000 c)(hd:okR 1000000000000 d):Ret Tryz.prog 14 [iD a b,iD c d] (·= .bool (decide (a=c)&&decide (b=d))):=by
 have h1:=qTx a c ha hc
 have h2:=qTx b d hb hd
 generalize decide (a=c)=x at *
 generalize decide (b=d)=y at *
 cases x<;>cases y
 all_goals
  refine qAa tab Tryz.func14 rfl rfl (lblz rfl) (fun w0 F0=>?_)
  repeat' (first|refine wG ?_|refine wC h1 ?_|refine wC h2 ?_|refine wS ?_ ?_<;>intro _|refine finG ?_)
  rfl
theorem qMc(i j:I2)(hi:okI 10000000 i)(hj:okI 10000000 j):Ret Tryz.prog 14 [iQ i,iQ j] (·= .bool (decide (i=j))):=by
 have:=ref04_Same (rq i.1) (rq i.2) (rq j.1) (rq j.2) (okR_of hi.1 (by decide)) (okR_of hi.2 (by decide)) (okR_of hj.1 (by decide)) (okR_of hj.2 (by decide))
 have e:(decide (rq i.1=rq j.1)&&decide (rq i.2=rq j.2))=decide (i=j):=by
  rw [←Bool.decide_and]
  refine decide_eq_decide.2 ⟨fun h=>Prod.ext (rq_inj h.1) (rq_inj h.2),fun h=>by rw [h];exact ⟨rfl,rfl⟩⟩
 rw [e] at this
 exact this
theorem qQ7(i:I2)(hle:i.1≤i.2)(hi:okI 200000 i)(v:R3)(hv:RatOk v 500000):Ret Tryz.prog 119 [iQ i,rD v] (·= .bool (qBo i (rv v))):=by
 have:=qSz (rq i.1) (rq i.2) v (qAs hi.1) (qAs hi.2) hv
 rw [qAw,qAw,qGx hle] at this
 exact this
theorem ref04_Meet(a b c d:R3)(ha:RatOk a 200000)(hb:RatOk b 200000)(hc:RatOk c 200000)(hd:RatOk d 200000):Ret Tryz.prog 21 [iD a b,iD c d] (·=match meetI (qD1 (rv a) (rv b)) (qD1 (rv c) (rv d)) with|none=>.tup [iD r0 r0,.bool false]|some m=>.tup [iQ m,.bool true]):=by
 have t1:=qIu a b ha hb
 have o1:=qGc (k:=200000) (qAx ha (by decide)) (qAx hb (by decide)) (by decide)
 have q1:=qHv (rv a) (rv b)
 generalize qD1 (rv a) (rv b)=i at *
 obtain ⟨p,q⟩:=i
 obtain ⟨op,oq⟩:=o1
 simp only at op oq q1
 have t2:=qIu c d hc hd
 have o2:=qGc (k:=200000) (qAx hc (by decide)) (qAx hd (by decide)) (by decide)
 have q2:=qHv (rv c) (rv d)
 generalize qD1 (rv c) (rv d)=j at *
 obtain ⟨s,t⟩:=j
 obtain ⟨os,ot⟩:=o2
 simp only at os ot q2
 have m1:=qTz p s (op.mono (by decide)) (os.mono (by decide))
 have m2:=qTy q t (oq.mono (by decide)) (ot.mono (by decide))
 have o3:=okQ_maxQ op os
 have o4:=okQ_minQ oq ot
 unfold meetI
 simp only
 generalize maxQ p s=x at *
 generalize minQ q t=y at *
 have hl:=qEa y x (o4.mono (by decide)) (o3.mono (by decide))
 by_cases h:y<x
 ·rw [decide_eq_true h] at hl
  rw [if_pos h]
  refine qAa tab Tryz.func21 rfl rfl (lblz rfl) (fun w0 F0=>?_)
  repeat' (first|refine wG ?_|refine wC t1 ?_|refine wC t2 ?_|refine wC m1 ?_|refine wC m2 ?_|refine wC hl ?_|refine rg 1 3 ?_|refine rgK 2 12 [6,7] ?_|refine wS ?_ ?_<;>intro _|refine qFx ?_)
  exact leT
 ·rw [decide_eq_false h] at hl
  rw [if_neg h]
  refine qAa tab Tryz.func21 rfl rfl (lblz rfl) (fun w0 F0=>?_)
  repeat' (first|refine wG ?_|refine wC t1 ?_|refine wC t2 ?_|refine wC m1 ?_|refine wC m2 ?_|refine wC hl ?_|refine rg 1 3 ?_|refine rgK 2 12 [6,7] ?_|refine wS ?_ ?_<;>intro _|refine finG ?_)
  rfl
theorem ref04_Width(a b:R3)(ha:RatOk a 200000)(hb:RatOk b 200000):Ret Tryz.prog 64 [iD a b] (·=qD ((qD1 (rv a) (rv b)).2-(qD1 (rv a) (rv b)).1)):=by
 have t1:=qIu a b ha hb
 have o1:=qGc (k:=200000) (qAx ha (by decide)) (qAx hb (by decide)) (by decide)
 have q1:=qHv (rv a) (rv b)
 generalize qD1 (rv a) (rv b)=i at *
 obtain ⟨p,q⟩:=i
 obtain ⟨op,oq⟩:=o1
 simp only at op oq q1
 have m1:=qIv q p (oq.mono (by decide)) (op.mono (by decide))
 refine qAa tab Tryz.func64 rfl rfl (lblz rfl) (fun w0 F0=>?_)
 repeat' (first|refine wG ?_|refine wC t1 ?_|refine wC m1 ?_|refine wS ?_ ?_<;>intro _|refine finG ?_)
 rfl
theorem ref04_Mid(a b:R3)(ha:RatOk a 200000)(hb:RatOk b 200000):Ret Tryz.prog 114 [iD a b] (·=qD (((qD1 (rv a) (rv b)).1+(qD1 (rv a) (rv b)).2)/2)):=by
 have t1:=qIu a b ha hb
 have o1:=qGc (k:=200000) (qAx ha (by decide)) (qAx hb (by decide)) (by decide)
 have q1:=qHv (rv a) (rv b)
 generalize qD1 (rv a) (rv b)=i at *
 obtain ⟨p,q⟩:=i
 obtain ⟨op,oq⟩:=o1
 simp only at op oq q1
 have m1:=qLh p q (op.mono (by decide)) (oq.mono (by decide))
 have m2:=qS0 2 (by decide) (by decide)
 have o2:okQ 10000000 ((2:Int):Rat):=okQ_int (by decide)
 have m3:=qG5 (p+q) ((2:Int):Rat) ((op.add oq).mono (by decide)) o2 (by decide)
 refine qAa tab Tryz.func114 rfl rfl (lblz rfl) (fun w0 F0=>?_)
 repeat' (first|refine wG ?_|refine wC t1 ?_|refine wC m1 ?_|refine wC m2 ?_|refine wC m3 ?_|refine wS ?_ ?_<;>intro _|refine finG ?_)
 rfl
theorem ref04_Two(n:Nat)(h:n≤128):Ret Tryz.prog 65 [.int .i64 n] (·=qD (twoQ n)):=by
 show Ret Tryz.prog 65 [.int .i64 n] (·=rD (rq (twoQ n)))
 rw [rq_two]
 have h1:qAe 1=[1]:=limbs_one
 have h2:qAe 2=[2]:=qCp (by decide) (by decide)
 refine qAa tab Tryz.func65 rfl rfl (lblz rfl) (fun w0 F0=>?_)
 repeat' (first|refine wG ?_|refine wS ?_ ?_<;>intro _|refine finG ?_)
 refine awp_cast 3 (u32s [1]) rfl (LeD.lit rfl (LeR.cons rfl leL LeR.nil)) ?_
 refine qAi (fun (i:Nat)=>([(0,.d (.int .i64 n)),(2,.ptr 2 0),(3,.d (u32s (qAe (2^i)))),(4,.d (.int .i64 i))],[(2,.box 27 zR3)])) (fun i=>i≤n) (fun i=>n-i) 0 (by omega) ⟨rfl,rfl,by rw [Nat.pow_zero,h1];rfl,rfl,rfl⟩ ⟨rfl,trivial⟩ (fun i hi=>?_)
 by_cases h3:i<n
 ·have l1:=two_len (n:=i) (k:=10) (by omega)
  have m1:=qT3 (2^i) 2 (by omega) (by rw [h2];decide)
  rw [←Nat.pow_succ,h2] at m1
  clear l1
  obtain ⟨y,hy⟩:∃y,2^(i+1)=y:=⟨_,rfl⟩
  rw [hy] at m1
  repeat' (first|refine wG ?_|refine wC m1 ?_|refine wS ?_ ?_<;>intro _|refine finG ?_)
  exact ⟨i+1,by omega,by omega,⟨rfl,rfl,by rw [hy];rfl,iv (by omega),rfl⟩,rfl,trivial⟩
 ·have:i=n:=by omega
  subst this
  repeat' (first|refine wG ?_|refine wS ?_ ?_<;>intro _|(show qA5 _ _ _ _ _;first|refine finF true rfl rfl sc ?_|refine finF false rfl rfl sc ?_|refine finC false rfl rfl sc sc ?_|refine finN rfl rfl sc ?_|refine finL true rfl rfl sc rfl (LeR.cons rfl leL LeR.nil) ?_|refine finA true rfl rfl sc ?_|refine finA false rfl rfl sc ?_|refine finE true rfl rfl sc ?_|refine finE false rfl rfl sc ?_))
  exact leL
set_option maxHeartbeats 4000000
theorem interval_hull(x:Rat)(l:List Rat)(hl:l.length<10000000)(h:∀q∈x::l,okQ 2000000 q):Ret Tryz.prog 88 [qD x,qsD l] (·=iQ (hullL x l)):=by
 have hx:okQ 2000000 x:=h x (List.mem_cons_self ..)
 have h':∀q∈l,okQ 2000000 q:=fun q hq=>h q (List.mem_cons_of_mem _ hq)
 refine qAa tab Tryz.func88 rfl rfl (lblz rfl) (fun w0 F0=>?_)
 repeat' (first|refine wG ?_|refine rg 10 5 ?_|refine wS ?_ ?_<;>intro _|refine finG ?_)
 refine qAi (fun (i:Nat)=>([(11,.d (qsD l)),(12,.d (.int .i64 l.length)),(13,.d (.int .i64 i)),(4,.ptr 4 0),(5,.ptr 5 0)],[(4,.box 32 zI),(5,.box 32 ((iC (rq ((l.take i).foldl minQ x)) (rq ((l.take i).foldl maxQ x))).map V.d))])) (fun i=>i≤l.length) (fun i=>l.length-i) 0 (by omega) ?_ ?_ (fun i hi=>?_)
 ·exact ⟨rfl,rfl,rfl,rfl,rfl,rfl⟩
 ·exact ⟨rfl,rfl,trivial⟩
 by_cases h3:i<l.length
 ·have hk:=take_ok (k:=2000000) hx h' i
  have hg:=getD_ok h' h3
  have e1:=qUq minQ x l h3
  have e2:=qUq maxQ x l h3
  obtain ⟨y,hy⟩:∃y,l.getD i 0=y:=⟨_,rfl⟩
  rw [hy] at e1 e2 hg
  obtain ⟨m,hm⟩:∃m,(l.take i).foldl minQ x=m:=⟨_,rfl⟩
  obtain ⟨n,hn⟩:∃n,(l.take i).foldl maxQ x=n:=⟨_,rfl⟩
  rw [hm] at e1
  rw [hn] at e2
  have hk1:=hk.1
  have hk2:=hk.2
  rw [hm] at hk1
  rw [hn] at hk2
  rw [hm,hn]
  have c1:=qBk y m (hg.mono (by decide)) (hk1.mono (by decide))
  have c2:=qBk y n (hg.mono (by decide)) (hk2.mono (by decide))
  have p1:=cmpQ_neg y m
  have p2:=qN1 y n
  obtain ⟨u,hu⟩:∃u,cmpQ y m=u:=⟨_,rfl⟩
  obtain ⟨v,hv⟩:∃v,cmpQ y n=v:=⟨_,rfl⟩
  rw [hu] at c1 p1
  rw [hv] at c2 p2
  rw [←hy] at c1 c2
  rw [show minQ m y=if y<m then y else m from rfl] at e1
  rw [show maxQ n y=if n<y then y else n from rfl] at e2
  by_cases b1:y<m
  ·have u1:=p1.2 b1
   rw [if_pos b1] at e1
   by_cases b2:n<y
   ·have v1:=p2.2 b2
    rw [if_pos b2] at e2
    clear p1 p2 hk hm hn
    repeat' (first|refine wG ?_|refine wC c1 ?_|refine wC c2 ?_|refine rg 10 5 ?_|refine wS ?_ ?_<;>intro _|refine finG ?_)
    exact ⟨i+1,by omega,by omega,⟨rfl,rfl,iv (by omega),rfl,rfl,rfl⟩,rfl,by rw [e1,e2,←hy];rfl,trivial⟩
   ·have v1:=mt p2.1 b2
    rw [if_neg b2] at e2
    clear p1 p2 hk hm hn
    repeat' (first|refine wG ?_|refine wC c1 ?_|refine wC c2 ?_|refine rg 10 5 ?_|refine wS ?_ ?_<;>intro _|refine finG ?_)
    exact ⟨i+1,by omega,by omega,⟨rfl,rfl,iv (by omega),rfl,rfl,rfl⟩,rfl,by rw [e1,e2,←hy];rfl,trivial⟩
  ·have u1:=mt p1.1 b1
   rw [if_neg b1] at e1
   by_cases b2:n<y
   ·have v1:=p2.2 b2
    rw [if_pos b2] at e2
    clear p1 p2 hk hm hn
    repeat' (first|refine wG ?_|refine wC c1 ?_|refine wC c2 ?_|refine rg 10 5 ?_|refine wS ?_ ?_<;>intro _|refine finG ?_)
    exact ⟨i+1,by omega,by omega,⟨rfl,rfl,iv (by omega),rfl,rfl,rfl⟩,rfl,by rw [e1,e2,←hy];rfl,trivial⟩
   ·have v1:=mt p2.1 b2
    rw [if_neg b2] at e2
    clear p1 p2 hk hm hn
    repeat' (first|refine wG ?_|refine wC c1 ?_|refine wC c2 ?_|refine rg 10 5 ?_|refine wS ?_ ?_<;>intro _|refine finG ?_)
    exact ⟨i+1,by omega,by omega,⟨rfl,rfl,iv (by omega),rfl,rfl,rfl⟩,rfl,by rw [e1,e2];rfl,trivial⟩
 ·have e:l.take i=l:=List.take_of_length_le (by omega)
  rw [e]
  have ho:=hullL_ok l x x hx hx h'
  have n1:=qJ7 (l.foldl minQ x) (ho.1.mono (by decide))
  have n2:=qJ7 (l.foldl maxQ x) (ho.2.mono (by decide))
  unfold hullL
  generalize l.foldl minQ x=m at *
  generalize l.foldl maxQ x=n at *
  repeat' (first|refine wG ?_|refine wC n1 ?_|refine wC n2 ?_|refine rg 10 5 ?_|refine wS ?_ ?_<;>intro _|refine finG ?_)
  rfl
theorem interval_Hull(a b c d:R3)(ha:RatOk a 500000)(hb:RatOk b 500000)(hc:RatOk c 500000)(hd:RatOk d 500000):Ret Tryz.prog 40 [iD a b,iD c d] (·=iQ (hullI (qD1 (rv a) (rv b)) (qD1 (rv c) (rv d)))):=by
 have t1:=qEt a b ha hb
 have o1:=qGc (k:=500000) (qAx ha (by decide)) (qAx hb (by decide)) (by decide)
 have q1:=qHv (rv a) (rv b)
 generalize qD1 (rv a) (rv b)=i at *
 obtain ⟨p,q⟩:=i
 obtain ⟨op,oq⟩:=o1
 simp only at op oq q1
 have t2:=qEt c d hc hd
 have o2:=qGc (k:=500000) (qAx hc (by decide)) (qAx hd (by decide)) (by decide)
 have q2:=qHv (rv c) (rv d)
 generalize qD1 (rv c) (rv d)=j at *
 obtain ⟨s,t⟩:=j
 obtain ⟨os,ot⟩:=o2
 simp only at os ot q2
 have hh:=interval_hull p [q,s,t] (by simp) (by
  intro x hx
  simp only [List.mem_cons,List.not_mem_nil,or_false] at hx
  rcases hx with h|h|h|h<;>rw [h]
  ·exact op.mono (by decide)
  ·exact oq.mono (by decide)
  ·exact os.mono (by decide)
  ·exact ot.mono (by decide))
 refine qAa tab Tryz.func40 rfl rfl (lblz rfl) (fun w0 F0=>?_)
 repeat' (first|refine wG ?_|refine wC t1 ?_|refine wC t2 ?_|refine wC hh ?_|refine rg 1 3 ?_|refine wS ?_ ?_<;>intro _|refine finG ?_)
 rfl
theorem qTc(a b:R3)(ha:RatOk a 500000)(hb:RatOk b 500000):Ret Tryz.prog 110 [iD a b] (·=qD ((qD1 (rv a) (rv b)).2-(qD1 (rv a) (rv b)).1)):=by
 have t1:=qEt a b ha hb
 have o1:=qGc (k:=500000) (qAx ha (by decide)) (qAx hb (by decide)) (by decide)
 have q1:=qHv (rv a) (rv b)
 generalize qD1 (rv a) (rv b)=i at *
 obtain ⟨p,q⟩:=i
 obtain ⟨op,oq⟩:=o1
 simp only at op oq q1
 have m1:=qDl q p (oq.mono (by decide)) (op.mono (by decide))
 refine qAa tab Tryz.func110 rfl rfl (lblz rfl) (fun w0 F0=>?_)
 repeat' (first|refine wG ?_|refine wC t1 ?_|refine wC m1 ?_|refine wS ?_ ?_<;>intro _|refine finG ?_)
 rfl
theorem interval_Mid(a b:R3)(ha:RatOk a 500000)(hb:RatOk b 500000):Ret Tryz.prog 55 [iD a b] (·=qD (((qD1 (rv a) (rv b)).1+(qD1 (rv a) (rv b)).2)/2)):=by
 have t1:=qEt a b ha hb
 have o1:=qGc (k:=500000) (qAx ha (by decide)) (qAx hb (by decide)) (by decide)
 have q1:=qHv (rv a) (rv b)
 generalize qD1 (rv a) (rv b)=i at *
 obtain ⟨p,q⟩:=i
 obtain ⟨op,oq⟩:=o1
 simp only at op oq q1
 have m1:=qFg p q (op.mono (by decide)) (oq.mono (by decide))
 have m2:=qB1 2 (by decide) (by decide)
 have o2:okQ 10000000 ((2:Int):Rat):=okQ_int (by decide)
 have m3:=qGy (p+q) ((2:Int):Rat) ((op.add oq).mono (by decide)) o2
 rw [if_neg (by decide)] at m3
 refine qAa tab Tryz.func55 rfl rfl (lblz rfl) (fun w0 F0=>?_)
 repeat' (first|refine wG ?_|refine wC t1 ?_|refine wC m1 ?_|refine wC m2 ?_|refine wC m3 ?_|refine wS ?_ ?_<;>intro _|refine finG ?_)
 rfl
set_option maxHeartbeats 8000000
set_option maxHeartbeats 4000000
theorem tmodFact18(k n:Int)(h:0<n): -n<k.tmod n∧k.tmod n<n∧k%n=if k.tmod n<0 then k.tmod n+n else k.tmod n:=by
 have h1:=Int.tmod_lt_of_pos k h
 have h2:=Int.lt_tmod_of_pos k h
 have h3:=Int.emod_nonneg k (show n≠0 by omega)
 have h4:=Int.emod_lt_of_pos k h
 have e1:=Int.mul_tdiv_add_tmod k n
 have e2:=Int.mul_ediv_add_emod k n
 refine ⟨h2,h1,?_⟩
 have hd:n*(k.tdiv n-k/n)=k%n-k.tmod n:=by rw [Int.mul_sub];omega
 split
 ·have hb: -(2*n)<n*(k.tdiv n-k/n)∧n*(k.tdiv n-k/n)<2*n∧0<n*(k.tdiv n-k/n):=by omega
  have h5:0<k.tdiv n-k/n:=Int.pos_of_mul_pos_right hb.2.2 h
  have h6:k.tdiv n-k/n<2:=by
   rcases Int.lt_or_le (k.tdiv n-k/n) 2 with h7|h7
   ·exact h7
   ·have:=Int.mul_le_mul_of_nonneg_left h7 (Int.le_of_lt h);omega
  rw [show k.tdiv n-k/n=1 by omega] at hd
  omega
 ·have hb: -n<n*(k.tdiv n-k/n)∧n*(k.tdiv n-k/n)<n:=by omega
  have h5: -1<k.tdiv n-k/n:=by
   rcases Int.lt_or_le (-1) (k.tdiv n-k/n) with h7|h7
   ·exact h7
   ·have:=Int.mul_le_mul_of_nonneg_left h7 (Int.le_of_lt h);omega
  have h6:k.tdiv n-k/n<1:=by
   rcases Int.lt_or_le (k.tdiv n-k/n) 1 with h7|h7
   ·exact h7
   ·have:=Int.mul_le_mul_of_nonneg_left h7 (Int.le_of_lt h);omega
  rw [show k.tdiv n-k/n=0 by omega] at hd
  omega
theorem made_ModI(k n:Int)(hk: -9223372036854775808≤k)(hk':k<9223372036854775808)(h:0<n)(h':n<10000000):Ret Tryz.prog 17 [.int .i64 k,.int .i64 n] (·= .int .i64 (k%n)):=by
 obtain ⟨t1,t2,t3⟩:=tmodFact18 k n h
 rw [t3]
 refine qAa tab Tryz.func17 rfl rfl (lblz rfl) (fun w0 F0=>?_)
 repeat' (first|refine wG ?_|refine wS ?_ ?_<;>intro _|refine finG ?_)
 ·rename_i hc;rw [if_pos hc]
 ·rename_i hc;rw [if_neg hc]
set_option maxHeartbeats 8000000
def smB(l:List Rat):Bool:=l.all fun x=>decide (x.num.natAbs<4294967296)&&decide (x.den<4294967296)
def cA:List Rat:=[((-2:Int):Rat),((0:Int):Rat),((1:Int):Rat)]
def cB:List Rat:=[((0:Int):Rat),((2:Int):Rat)]
def cE:List Rat:=[((1:Int):Rat),((-2:Int):Rat),((1:Int):Rat)]
theorem ref03_TakeL(l:List R3)(hl:l.length<10000000000)(h:∀r∈l,RatOk r 100000000):Ret Tryz.prog 208 [rsD l] (·=qsD (l.map rv)):=by
 refine qAa tab Tryz.func208 rfl rfl (lblz rfl) (fun w0 F0=>?_)
 repeat' (first|refine wG ?_|refine wS ?_ ?_<;>intro _|refine finG ?_)
 refine qB3 3 100 27 3 qC 0 rfl ?_
 refine qAi (fun (i:Nat)=>([(0,.d (rsD l)),(3,.own 100 0 ((l.map rv).take i).length 27 3),(4,.d (.int .i64 i))],[(100,.data 27 3 qC 0 ((l.map rv).take i))])) (fun i=>i≤l.length) (fun i=>l.length-i) 0 (by omega) ⟨rfl,rfl,rfl,rfl⟩ ⟨rfl,trivial⟩ (fun i hi=>?_)
 have hlen:((l.map rv).take i).length=i:=by simp;omega
 by_cases h3:i<l.length
 ·have g1:l.getD i r0∈l:=by rw [List.getD,List.getElem?_eq_getElem h3];exact List.getElem_mem h3
  have ht:=qB0 _ (h _ g1)
  have e:(l.map rv).take i++[rv (l.getD i r0)]=(l.map rv).take (i+1):=by
   rw [List.take_add_one]
   simp [h3,List.getD,List.getElem?_eq_getElem h3]
  repeat' (first|refine wG ?_|refine wC ht ?_|refine wS ?_ ?_<;>intro _|refine finG ?_)
  exact ⟨i+1,by omega,by omega,⟨rfl,by rw [←e];rfl,iv (by omega),rfl⟩,by rw [←e];rfl,trivial⟩
 ·have:i=l.length:=by omega
  subst this
  repeat' (first|refine wG ?_|refine wS ?_ ?_<;>intro _|refine finG ?_)
  rw [List.take_of_length_le (by simp)]
theorem qE8(l:List R3)(hn:l.length≤1000)(hl:∀r∈l,RatOk r 10000000):Ret Tryz.prog 189 [rsD l] (·=qsD (qAd (l.map rv))):=by
 have tl:=ref03_TakeL l (by omega) (fun r hr=>(hl r hr).up (by decide))
 have hq:∀x∈l.map rv,okQ 10000000 x:=fun x hx=>by
  obtain ⟨r,hr,rfl⟩:=List.mem_map.1 hx
  exact qAx (hl r hr) (by decide)
 have hpn:(l.map rv).length≤1000:=by rw [List.length_map];exact hn
 generalize l.map rv=p at *
 have ex:∀a,a≤p.length->(∀i,a≤i->i<p.length->cf p i=0)->(0<a->cf p (a-1)≠0)->qAd p=p.take a:=fun a h1 h2 h3=>qQs h1 (fun i h h'=>h2 i h h') h3
 clear hl
 refine qAa tab Tryz.func189 rfl rfl (lblz rfl) (fun w0 F0=>?_)
 repeat' (first|refine wG ?_|refine wC tl ?_|refine wS ?_ ?_<;>intro _|refine finG ?_)
 refine qAi (fun (a:Nat)=>([(3,.d (qsD (p.take a)))],[])) (fun a=>a≤p.length∧∀i,a≤i->i<p.length->cf p i=0) (fun a=>a) p.length ⟨Nat.le_refl _,fun i h1 h2=>by omega⟩ ⟨by rw [List.take_length];rfl,rfl⟩ trivial (fun a ha=>?_)
 obtain ⟨a1,a2⟩:=ha
 have ll:(p.take a).length=a:=by rw [List.length_take];omega
 have e2:=ex a a1 a2
 by_cases c:0<a
 ·have ea:(((p.take a).length:Int)-1).toNat=a-1:=by omega
  have eg:(p.take a).getD (a-1) 0=cf p (a-1):=by
   unfold cf
   rw [List.getD_eq_getElem?_getD,List.getD_eq_getElem?_getD,List.getElem?_take_of_lt (by omega)]
  have sg:=qD9 ((p.take a).getD (((p.take a).length:Int)-1).toNat 0) (by rw [ea,eg];exact (qCv hq (by decide) _).mono (by decide))
  rw [ea,eg] at sg
  have hz:=sign_num (cf p (a-1))
  have sg2:Ret Tryz.prog 32 [qD ((p.take a).getD (((p.take a).length:Int)-1).toNat 0)] (·= .int .i64 (cf p (a-1)).num.sign):=by rw [ea,eg];exact sg
  have tt2:(p.take a).take (a-1)=p.take (a-1):=by rw [List.take_take];congr 1;omega
  have a3:cf p (a-1)=0->∀i,a-1≤i->i<p.length->cf p i=0:=fun h i h1 h2=>by
   by_cases e:i=a-1
   ·rw [e];exact h
   ·exact a2 i (by omega) h2
  generalize cf p (a-1)=x at *
  generalize x.num.sign=z at *
  clear ex hq sg tl
  obtain ⟨s,hs⟩:∃s,p.take a=s:=⟨_,rfl⟩
  rw [hs] at ll ea eg sg2 tt2 e2 ⊢
  repeat' (first|refine wG ?_|refine wC sg2 ?_|refine wS ?_ ?_<;>intro _|refine finG ?_)
  ·exact ⟨a-1,⟨by omega,a3 (hz.1 ‹_›)⟩,by omega,⟨by
    show V.d _=V.d (qsD (p.take (a-1)))
    rw [←tt2,←ea],rfl⟩,trivial⟩
  ·rw [e2 fun _ h=> ‹¬_› (hz.2 h)]
 ·clear ex hq tl
  rw [e2 fun h=>absurd h c]
  repeat' (first|refine wG ?_|refine wS ?_ ?_<;>intro _|refine finG ?_)
  rfl
theorem cf_ok{p:List Rat}{K:Nat}(h:∀i,okQ K (cf p i)):∀x∈p,okQ K x:=fun x hx=>by
 obtain ⟨i,hi,rfl⟩:=List.getElem_of_mem hx
 have:=h i
 rwa [qN4 hi] at this
set_option maxHeartbeats 4000000
set_option maxHeartbeats 8000000
theorem clamp_ok{d k:Rat}{n m:Nat}(hd:okQ n d)(hk:okQ m k)(hn:n≤m):okQ m (qBz d k):=by
 unfold qBz
 split
 ·exact hk.neg
 ·split
  ·exact hk
  ·exact hd.mono hn
theorem hub_ok{k t:Rat}{n:Nat}(hk:okQ n k)(ht:okQ n t)(h1:1<n):∀{x:List Rat},(∀v∈x,okQ n v)->okQ (2+x.length*(2*n)) (hub x k t)
 |[],_=>qB9 (by omega)
 |v::x,h=>by
  have ih:=hub_ok hk ht h1 (x:=x) fun u hu=>h u (List.mem_cons_of_mem _ hu)
  have c:=clamp_ok ((h v List.mem_cons_self).sub ht) (hk.mono (show n≤n+n by omega)) (Nat.le_refl _)
  have:=c.add ih
  refine okQ.mono this ?_
  rw [List.length_cons,Nat.add_mul]
  omega
theorem qRr(x t r:Rat)(hx:okQ 10000 x)(ht:okQ 10000 t)(hr:okQ 10000 r):Ret Tryz.prog 84 [qD x,qD t,qD r] (·= .bool (decide (absQ (x-t)<r))):=by
 have s1:=qDl x t (hx.mono (by decide)) (ht.mono (by decide))
 have ox:=(hx.sub ht).mono (show 10000+10000≤20000 by decide)
 have a1:=qNe (x-t) (ox.mono (by decide))
 have oa:okQ 20000 (absQ (x-t)):=by
  unfold absQ
  split
  ·exact ox.neg
  ·exact ox
 have cm:=qBk (absQ (x-t)) r (oa.mono (by decide)) (hr.mono (by decide))
 have e:(cmpQ (absQ (x-t)) r<0)↔absQ (x-t)<r:=by
  unfold cmpQ
  constructor
  ·intro h
   split at h
   ·assumption
   ·split at h<;>exact absurd h (by decide)
  ·intro h
   rw [if_pos h];decide
 generalize absQ (x-t)=a at *
 generalize x-t=d at *
 generalize cmpQ a r=c at *
 rw [show decide (a<r)=decide (c<0) from decide_eq_decide.2 e.symm]
 clear e ox oa
 refine qAa tab Tryz.func84 rfl rfl (lblz rfl) (fun w0 F0=>?_)
 repeat' (first|refine wG ?_|refine wC s1 ?_|refine wC a1 ?_|refine wC cm ?_|refine rg 1 5 ?_|refine wS ?_ ?_<;>intro _|refine finG ?_)
 rfl
theorem clamp_near{d k:Rat}(hk:0<k):qBz d k=if absQ d<k then d else k*((d.num.sign:Int):Rat):=by
 have sg:d.num.sign=if d<0 then-1 else if 0<d then 1 else 0:=by
  rcases qC1 d with ⟨h1,h2⟩|⟨h1,h2⟩|⟨h1,h2⟩
  ·rw [if_neg (by grind),if_pos h1];exact h2
  ·subst h1;rfl
  ·rw [if_pos h1];exact h2
 unfold qBz absQ
 rw [sg]
 have e1:(((-1:Int)):Rat)= -1:=rfl
 have e2:(((1:Int)):Rat)=1:=rfl
 by_cases h:d<0
 ·rw [if_pos h,if_pos h]
  split
  ·rw [if_neg (by grind),e1];grind
  ·rw [if_neg (by grind)]
   split
   ·rfl
   ·rw [e1];grind
 ·rw [if_neg h,if_neg h]
  rw [if_neg (by grind)]
  split
  ·rw [if_neg (by grind),if_pos (by grind),e2];grind
  ·split
   ·rfl
   ·rw [if_pos (by grind),e2];grind
theorem hub_step{x:List Rat}{k t:Rat}{i:Nat}(h:i<x.length):hub (x.take (i+1)) k t=hub (x.take i) k t+qBz (x.getD i 0-t) k:=by
 rw [List.take_add_one,List.getElem?_eq_getElem h,qUm,List.getD_eq_getElem?_getD,List.getElem?_eq_getElem h]
 show _+(qBz (x[i]-t) k+0)=_
 rw [Rat.add_zero];rfl
theorem mroots_huber(x:List Rat)(k t:Rat)(hl:x.length≤200)(hx:∀v∈x,okQ 1000 v)(ok:okQ 1000 k)(ot:okQ 1000 t)(hk:0<k):Ret Tryz.prog 36 [qsD x,qD k,qD t] (·=qD (hub x k t)):=by
 have og:∀i,okQ 1000 (x.getD i 0):=fun i=>qCv hx (by decide) i
 obtain ⟨H,hH⟩:∃H:Nat->Rat,∀i,H i=hub (x.take i) k t:=⟨fun i=>hub (x.take i) k t,fun _=>rfl⟩
 have h0:H 0=0:=by rw [hH];rfl
 have oH:∀i,okQ 500000 (H i):=fun i=>by
  rw [hH]
  refine (hub_ok ok ot (by decide) (x:=x.take i) fun v hv=>hx v (List.mem_of_mem_take hv)).mono ?_
  have:=Nat.mul_le_mul_right (2*1000) (show (x.take i).length≤200 by rw [List.length_take];omega)
  omega
 have hs:∀i,i<x.length->H (i+1)=H i+qBz (x.getD i 0-t) k:=fun i hi=>by rw [hH,hH];exact hub_step hi
 rw [show hub x k t=H x.length by rw [hH,List.take_of_length_le (Nat.le_refl _)]]
 clear hH hx
 refine qAa tab Tryz.func36 rfl rfl (lblz rfl) (fun w0 F0=>?_)
 repeat' (first|refine wG ?_|refine rg 7 4 ?_|refine wS ?_ ?_<;>intro _|refine finG ?_)
 refine qJy ((Conv.box 7 (cs:=[.bool false,.nils,.nils]) (rC r0) rfl leL).trans (Conv.box 6 (cs:=[.bool false,.nils,.nils]) (rC r0) rfl leL)) ?_
 refine qAi (fun (i:Nat)=>([(0,.d (qsD x)),(4,.ptr 4 0),(5,.ptr 5 0),(6,.ptr 6 0),(7,.ptr 7 0),(11,.d (qsD x)),(12,.d (.int .i64 x.length)),(13,.d (.int .i64 i))],[(4,.box 27 ((rC (rq k)).map V.d)),(5,.box 27 ((rC (rq t)).map V.d)),(6,.box 27 ((rC r0).map V.d)),(7,.box 27 ((rC (rq (H i))).map V.d))])) (fun i=>i≤x.length) (fun i=>x.length-i) 0 (by omega) ⟨rfl,rfl,rfl,rfl,rfl,rfl,rfl,rfl,rfl⟩ ⟨rfl,rfl,rfl,(by rw [h0,qM2];rfl),trivial⟩ (fun i hi=>?_)
 by_cases h3:i<x.length
 ·have s1:=qDl (x.getD i 0) t ((og i).mono (by decide)) (ot.mono (by decide))
  have od:okQ 2000 (x.getD i 0-t):=((og i).sub ot).mono (by decide)
  have n1:=qRr (x.getD i 0) t k ((og i).mono (by decide)) (ot.mono (by decide)) (ok.mono (by decide))
  have sg:=qB7 (x.getD i 0-t) (od.mono (by decide))
  have sb: -1≤(x.getD i 0-t).num.sign∧(x.getD i 0-t).num.sign≤1:=by
   rcases qC1 (x.getD i 0-t) with ⟨_,h2⟩|⟨_,h2⟩|⟨_,h2⟩<;>(rw [show (x.getD i 0-t).num.sign=sgQ (x.getD i 0-t) from rfl,h2];decide)
  have f1:=qB1 (x.getD i 0-t).num.sign (by omega) (by omega)
  have m1:=qJf k (((x.getD i 0-t).num.sign:Int):Rat) (ok.mono (by decide)) ((qF6 (by omega)).mono (by decide))
  have a1:=qFg (H i) (qBz (x.getD i 0-t) k) ((oH i).mono (by decide)) ((clamp_ok od (ok.mono (show 1000≤2000 by decide)) (Nat.le_refl _)).mono (by decide))
  rw [←hs i h3] at a1
  rw [clamp_near hk] at a1
  clear oH hs og od
  generalize (x.getD i 0-t).num.sign=z at *
  by_cases c:absQ (x.getD i 0-t)<k
  ·rw [decide_eq_true c] at n1
   rw [if_pos c] at a1
   repeat' (first|refine wG ?_|refine wC s1 ?_|refine wC n1 ?_|refine wC a1 ?_|refine rg 7 4 ?_|refine wS ?_ ?_<;>intro _|refine finG ?_)
   exact ⟨i+1,by omega,by omega,⟨rfl,rfl,rfl,rfl,rfl,rfl,rfl,iv (by omega),rfl⟩,rfl,rfl,rfl,rfl,trivial⟩
  ·rw [decide_eq_false c] at n1
   rw [if_neg c] at a1
   repeat' (first|refine wG ?_|refine wC s1 ?_|refine wC n1 ?_|refine wC sg ?_|refine wC f1 ?_|refine wC m1 ?_|refine wC a1 ?_|refine rg 7 4 ?_|refine wS ?_ ?_<;>intro _|refine finG ?_)
   exact ⟨i+1,by omega,by omega,⟨rfl,rfl,rfl,rfl,rfl,rfl,rfl,iv (by omega),rfl⟩,rfl,rfl,rfl,rfl,trivial⟩
 ·have e:i=x.length:=by omega
  subst e
  clear oH hs og
  repeat' (first|refine wG ?_|refine rg 7 4 ?_|refine wS ?_ ?_<;>intro _|refine finG ?_)
  rfl
theorem qPb(v:Rat)(hv:okQ 1000000 v):Ret Tryz.prog 37 [qD v] (·= .bool (decide (v=0))):=by
 have sg:=qB7 v (hv.mono (by decide))
 have z:=sign_zero_iff (q:=v)
 rw [show decide (v=0)=decide (v.num.sign=0) from decide_eq_decide.2 z.symm]
 generalize v.num.sign=s at *
 refine qAa tab Tryz.func37 rfl rfl (lblz rfl) (fun w0 F0=>?_)
 repeat' (first|refine wG ?_|refine wC sg ?_|refine wS ?_ ?_<;>intro _|refine finG ?_)
 rfl
theorem Huber_neg(v:Rat)(hv:okQ 1000000 v):Ret Tryz.prog 41 [qD v] (·= .bool (decide (v<0))):=by
 have sg:=qB7 v (hv.mono (by decide))
 have z:v.num.sign<0↔v<0:=by rw [←num_lt0,←Int.not_le,←Int.not_le,Int.sign_nonneg_iff]
 rw [show decide (v<0)=decide (v.num.sign<0) from decide_eq_decide.2 z.symm]
 generalize v.num.sign=s at *
 refine qAa tab Tryz.func41 rfl rfl (lblz rfl) (fun w0 F0=>?_)
 repeat' (first|refine wG ?_|refine wC sg ?_|refine wS ?_ ?_<;>intro _|refine finG ?_)
 rfl
theorem qUl(fid:FuncId)(l:List Rat)(P:Rat->Prop)[DecidablePred P](n:Nat)(hn:n<l.length)(hl:l.length≤1000000)(hf:∀i,i≤n->Ret Tryz.prog fid [qD (l.getD i 0)] (·= .bool (decide (P (l.getD i 0)))))(h1:P (l.getD n 0))(h2:∀j,j<n->¬P (l.getD j 0)):Ret Tryz.prog 39 [qsD l,.fn fid []] (·= .int .i64 n):=by
 refine qAa tab Tryz.func39 rfl rfl (lblz rfl) (fun w0 F0=>?_)
 repeat' (first|refine wG ?_|refine wS ?_ ?_<;>intro _|refine finG ?_)
 refine qAi (fun (i:Nat)=>([(0,.d (qsD l)),(1,.d (.fn fid [])),(7,.d (.int .i64 l.length)),(8,.d (.int .i64 i))],[])) (fun i=>i≤n) (fun i=>l.length-i) 0 (by omega) ⟨rfl,rfl,rfl,rfl,rfl⟩ trivial (fun i hi=>?_)
 have c:=hf i hi
 by_cases h3:i<n
 ·rw [decide_eq_false (h2 i h3)] at c
  clear hf h2
  repeat' (first|refine wG ?_|refine wC c ?_|refine wS ?_ ?_<;>intro _|refine finG ?_)
  exact ⟨i+1,by omega,by omega,⟨rfl,rfl,rfl,iv (by omega),rfl⟩,trivial⟩
 ·have e:i=n:=by omega
  subst e
  rw [decide_eq_true h1] at c
  clear hf h2
  repeat' (first|refine wG ?_|refine wC c ?_|refine wS ?_ ?_<;>intro _|refine finG ?_)
  rfl
theorem index_none(fid:FuncId)(l:List Rat)(P:Rat->Prop)[DecidablePred P](hl:l.length≤1000000)(hf:∀i,i<l.length->Ret Tryz.prog fid [qD (l.getD i 0)] (·= .bool (decide (P (l.getD i 0)))))(h2:∀j,j<l.length->¬P (l.getD j 0)):Ret Tryz.prog 39 [qsD l,.fn fid []] (·= .int .i64 (-1)):=by
 refine qAa tab Tryz.func39 rfl rfl (lblz rfl) (fun w0 F0=>?_)
 repeat' (first|refine wG ?_|refine wS ?_ ?_<;>intro _|refine finG ?_)
 refine qAi (fun (i:Nat)=>([(0,.d (qsD l)),(1,.d (.fn fid [])),(7,.d (.int .i64 l.length)),(8,.d (.int .i64 i))],[])) (fun i=>i≤l.length) (fun i=>l.length-i) 0 (by omega) ⟨rfl,rfl,rfl,rfl,rfl⟩ trivial (fun i hi=>?_)
 by_cases h3:i<l.length
 ·have c:=hf i h3
  rw [decide_eq_false (h2 i h3)] at c
  clear hf h2
  repeat' (first|refine wG ?_|refine wC c ?_|refine wS ?_ ?_<;>intro _|refine finG ?_)
  exact ⟨i+1,by omega,by omega,⟨rfl,rfl,rfl,iv (by omega),rfl⟩,trivial⟩
 ·have e:i=l.length:=by omega
  subst e
  clear hf h2
  repeat' (first|refine wG ?_|refine wS ?_ ?_<;>intro _|refine finG ?_)
  rfl
def qUz(x:List Rat)(r:Rat):Int:=if x.length=0 then 10 else if 64<x.length then 2 else if r≤0 then 1 else 0
theorem sign_le0{r:Rat}:r.num.sign≤0↔r≤0:=by
 rcases qC1 r with ⟨h1,h2⟩|⟨h1,h2⟩|⟨h1,h2⟩
 ·rw [show r.num.sign=1 from h2];constructor<;>intro h<;>first|exact absurd h (by decide)|grind
 ·subst h1;exact ⟨fun _=>Rat.le_refl,fun _=>by decide⟩
 ·rw [show r.num.sign= -1 from h2];exact ⟨fun _=>Rat.le_of_lt h1,fun _=>by decide⟩
theorem qPl(x:List Rat)(r:Rat)(hr:okQ 1000000 r):Ret Tryz.prog 34 [qsD x,qD r] (·= .int .i64 (qUz x r)):=by
 have sg:=qB7 r (hr.mono (by decide))
 have z:=sign_le0 (r:=r)
 unfold qUz
 by_cases h0:x.length=0
 ·rw [if_pos h0]
  clear z sg
  refine qAa tab Tryz.func34 rfl rfl (lblz rfl) (fun w0 F0=>?_)
  repeat' (first|refine wG ?_|refine wS ?_ ?_<;>intro _|refine finG ?_)
  rfl
 ·rw [if_neg h0]
  by_cases h1:64<x.length
  ·rw [if_pos h1]
   clear z sg
   refine qAa tab Tryz.func34 rfl rfl (lblz rfl) (fun w0 F0=>?_)
   repeat' (first|refine wG ?_|refine wS ?_ ?_<;>intro _|refine finG ?_)
   rfl
  ·rw [if_neg h1]
   by_cases h2:r≤0
   ·rw [if_pos h2]
    have h3:=z.2 h2
    generalize r.num.sign=s at *
    refine qAa tab Tryz.func34 rfl rfl (lblz rfl) (fun w0 F0=>?_)
    repeat' (first|refine wG ?_|refine wC sg ?_|refine wS ?_ ?_<;>intro _|refine finG ?_)
    rfl
   ·rw [if_neg h2]
    have h3:¬r.num.sign≤0:=fun e=>h2 (z.1 e)
    generalize r.num.sign=s at *
    refine qAa tab Tryz.func34 rfl rfl (lblz rfl) (fun w0 F0=>?_)
    repeat' (first|refine wG ?_|refine wC sg ?_|refine wS ?_ ?_<;>intro _|refine finG ?_)
    rfl
theorem qO2{x:List Rat}{r:Rat}{n:Nat}(hx:∀v∈x,okQ n v)(hr:okQ n r):∀y∈qDq x r,okQ (n+n) y:=fun y hy=>by
 obtain ⟨v,hv,e⟩:=endsF_inv hy
 rcases e with rfl|rfl
 ·exact (hx v hv).sub hr
 ·exact (hx v hv).add hr
theorem qSy(l:List Rat)(hl:l.length≤1000)(ho:∀x∈l,okQ 100000 x):Ret Tryz.prog 97 [qsD l] (·=qsD (cmpL l)):=by
 have og:∀i,okQ 100000 (l.getD i 0):=fun i=>qCv ho (by decide) i
 obtain ⟨C,hC⟩:∃C:Nat->List Rat,∀i,C i=cmpL (l.take i):=⟨fun i=>cmpL (l.take i),fun _=>rfl⟩
 have c0:C 0=[]:=by rw [hC];rfl
 have cl:∀i,(C i).length≤1000:=fun i=>by rw [hC];have:=qIa (l.take i);rw [List.length_take] at this;omega
 have s0:0<l.length->C 1=C 0++[l.getD 0 0]:=fun h=>by
  rw [hC,hC]
  match l,h with
  |a::l,_=>rfl
 have sS:∀i,0<i->i<l.length->C (i+1)=C i++(if l.getD i 0=l.getD (i-1) 0 then [] else [l.getD i 0]):=fun i h1 h2=>by rw [hC,hC];exact qSn h1 h2
 rw [show cmpL l=C l.length by rw [hC,List.take_of_length_le (Nat.le_refl _)]]
 clear hC ho
 refine qAa tab Tryz.func97 rfl rfl (lblz rfl) (fun w0 F0=>?_)
 repeat' (first|refine wG ?_|refine rg 5 12 ?_|refine wS ?_ ?_<;>intro _|refine finG ?_)
 refine qB3 3 500 27 3 qC 0 rfl ?_
 refine qAi (fun (i:Nat)=>([(0,.d (qsD l)),(3,qO (C i).length),(4,.d (.int .i64 i))],[(500,qB (C i))])) (fun i=>i≤l.length) (fun i=>l.length-i) 0 (by omega) ⟨rfl,qEn (by rw [c0];rfl),rfl,rfl⟩ ⟨qBr (by rw [c0]),trivial⟩ (fun i hi=>?_)
 have hcl:=cl i
 by_cases h3:i<l.length
 ·by_cases h0:i=0
  ·subst h0
   have st:=s0 h3
   clear sS og cl s0
   repeat' (first|refine wG ?_|refine rg 5 12 ?_|refine wS ?_ ?_<;>intro _|refine finG ?_)
   exact ⟨1,by omega,by omega,⟨rfl,qEn (by rw [st]),rfl,rfl⟩,qBr (by rw [st]),trivial⟩
  ·have st:=sS i (by omega) h3
   have e1:((i:Int)-1).toNat=i-1:=by omega
   have cm:=qLv (l.getD i 0) (l.getD ((i:Int)-1).toNat 0) ((og _).mono (by decide)) ((og _).mono (by decide))
   by_cases h4:l.getD i 0=l.getD (i-1) 0
   ·rw [if_pos h4,List.append_nil] at st
    have z:cmpQ (l.getD i 0) (l.getD ((i:Int)-1).toNat 0)=0:=by
     rw [e1,h4]
     unfold cmpQ
     rw [if_neg Rat.lt_irrefl,if_neg Rat.lt_irrefl]
    rw [z] at cm
    clear sS og cl s0 z h4
    repeat' (first|refine wG ?_|refine wC cm ?_|refine rg 5 12 ?_|refine wS ?_ ?_<;>intro _|refine finG ?_)
    exact ⟨i+1,by omega,by omega,⟨rfl,qEn (by rw [st]),iv (by omega),rfl⟩,qBr (by rw [st]),trivial⟩
   ·rw [if_neg h4] at st
    have z:cmpQ (l.getD i 0) (l.getD ((i:Int)-1).toNat 0)≠0:=by
     rw [e1]
     unfold cmpQ
     split
     ·decide
     ·split
      ·decide
      ·exact fun _=>h4 (by grind)
    generalize cmpQ (l.getD i 0) (l.getD ((i:Int)-1).toNat 0)=c at *
    clear sS og cl s0 h4
    repeat' (first|refine wG ?_|refine wC cm ?_|refine rg 5 12 ?_|refine wS ?_ ?_<;>intro _|refine finG ?_)
    exact ⟨i+1,by omega,by omega,⟨rfl,qEn (by rw [st]),iv (by omega),rfl⟩,qBr (by rw [st]),trivial⟩
 ·have e:i=l.length:=by omega
  subst e
  clear sS og cl s0
  repeat' (first|refine wG ?_|refine rg 5 12 ?_|refine wS ?_ ?_<;>intro _|refine finG ?_)
  rfl
theorem qJ5(l:List Rat)(hl:l.length≤12)(ho:∀x∈l,okQ 1000 x):Ret Tryz.prog 83 [qsD l] (·=qsD (cmpL (srt l))):=by
 have hs:=order_SortB (l.map rq) (by rw [List.length_map];exact hl) (qBq ho)
 rw [qAf,List.length_map,←qE2 l] at hs
 have os:=srt_ok ho
 have sl:=qE2 l
 have cb:=compact_B (srt l) (by omega) (fun x hx=>(os x hx).mono (by decide))
 have key:Ret Tryz.prog 83 [rsD (l.map rq)] (·=qsD (cmpL (srt l))):=by
  have hc:=qIa (srt l)
  have ecut:cut 0 (cmpL (srt l)).length (cmpL (srt l)++List.replicate ((srt l).length-(cmpL (srt l)).length) 0)=cmpL (srt l):=by
   rw [cut_zero,List.take_left' rfl]
  generalize srt l=s at *
  generalize cmpL s=c at *
  clear os ho
  refine qAa tab Tryz.func83 rfl rfl (lblz rfl) (fun w0 F0=>?_)
  repeat' (first|refine wG ?_|refine wD [500] hs ?_|refine wD [] cb ?_|refine wS ?_ ?_<;>intro _|refine finG ?_)
  rw [ecut]
 exact key.args (qCw l (LeT.refl _))
theorem take_ends{x:List Rat}{r:Rat}{i:Nat}(h:i<x.length):qDq (x.take (i+1)) r=qDq (x.take i) r++[x.getD i 0-r,x.getD i 0+r]:=by
 rw [show x.take (i+1)=x.take i++[x.getD i 0] by rw [List.take_add_one,List.getD_eq_getElem?_getD,List.getElem?_eq_getElem h];rfl,qUr]
theorem qNl(x:List Rat)(r:Rat)(hl:x.length≤6)(hx:∀v∈x,okQ 100 v)(or:okQ 100 r):Ret Tryz.prog 35 [qsD x,qD r] (·=qsD (qAc x r)):=by
 have og:∀i,okQ 100 (x.getD i 0):=fun i=>qCv hx (by decide) i
 have el:=qI8 r x
 have hasc:=qJ5 (qDq x r) (by omega) (fun y hy=>(qO2 hx or y hy).mono (by decide))
 rw [show cmpL (srt (qDq x r))=qAc x r from rfl] at hasc
 obtain ⟨E,hE⟩:∃E:Nat->List Rat,∀i,E i=qDq (x.take i) r:=⟨fun i=>qDq (x.take i) r,fun _=>rfl⟩
 have e0:E 0=[]:=by rw [hE];rfl
 have eS:∀i,i<x.length->E (i+1)=E i++[x.getD i 0-r,x.getD i 0+r]:=fun i hi=>by rw [hE,hE];exact take_ends hi
 have eL:∀i,(E i).length≤128:=fun i=>by rw [hE,qI8,List.length_take];omega
 rw [show qDq x r=E x.length by rw [hE,List.take_of_length_le (Nat.le_refl _)]] at hasc
 generalize qAc x r=q at *
 clear hE hx el
 refine qAa tab Tryz.func35 rfl rfl (lblz rfl) (fun w0 F0=>?_)
 repeat' (first|refine wG ?_|refine rg 5 8 ?_|refine wS ?_ ?_<;>intro _|refine finG ?_)
 refine qB3 5 500 27 3 qC 0 rfl ?_
 refine qAi (fun (i:Nat)=>([(0,.d (qsD x)),(3,.ptr 3 0),(5,qO (E i).length),(8,.d (qsD x)),(9,.d (.int .i64 x.length)),(10,.d (.int .i64 i))],[(3,.box 27 ((rC (rq r)).map V.d)),(500,qB (E i))])) (fun i=>i≤x.length) (fun i=>x.length-i) 0 (by omega) ⟨rfl,rfl,qEn (by rw [e0];rfl),rfl,rfl,rfl,rfl⟩ ⟨rfl,qBr (by rw [e0]),trivial⟩ (fun i hi=>?_)
 have hel:=eL i
 by_cases h3:i<x.length
 ·have s1:=qDl (x.getD i 0) r ((og i).mono (by decide)) (or.mono (by decide))
  have a1:=qFg (x.getD i 0) r ((og i).mono (by decide)) (or.mono (by decide))
  have st:=eS i h3
  clear og eS eL
  repeat' (first|refine wG ?_|refine wC s1 ?_|refine wC a1 ?_|refine rg 5 8 ?_|refine wS ?_ ?_<;>intro _|refine finG ?_)
  exact ⟨i+1,by omega,by omega,⟨rfl,rfl,qEn (by rw [st]),rfl,rfl,iv (by omega),rfl⟩,rfl,qBr (by rw [st]),trivial⟩
 ·have e:i=x.length:=by omega
  subst e
  clear og eS eL
  repeat' (first|refine wG ?_|refine wC hasc ?_|refine rg 5 8 ?_|refine wS ?_ ?_<;>intro _|refine finG ?_)
  rfl
theorem qKh(x:List Rat)(r:Rat)(hl:x.length≤6)(hx:∀v∈x,okQ 100 v)(or:okQ 100 r):Ret Tryz.prog 47 [qsD x,qD r] (·=qsD (qAc x r)):=by
 have og:∀i,okQ 100 (x.getD i 0):=fun i=>qCv hx (by decide) i
 have el:=qI8 r x
 have oe:∀y∈qDq x r,okQ 1000 y:=fun y hy=>(qO2 hx or y hy).mono (by decide)
 have so:=ref16_Sort ((qDq x r).map rq) (by rw [List.length_map];omega) (qBq oe)
 rw [qAf] at so
 have so:=so.args (qCw (qDq x r) (LeT.refl _))
 have ds:=qSy (srt (qDq x r)) (by rw [qE2];omega) (fun y hy=>(srt_ok oe y hy).mono (by decide))
 rw [show cmpL (srt (qDq x r))=qAc x r from rfl] at ds
 obtain ⟨E,hE⟩:∃E:Nat->List Rat,∀i,E i=qDq (x.take i) r:=⟨fun i=>qDq (x.take i) r,fun _=>rfl⟩
 have e0:E 0=[]:=by rw [hE];rfl
 have eS:∀i,i<x.length->E (i+1)=E i++[x.getD i 0-r,x.getD i 0+r]:=fun i hi=>by rw [hE,hE];exact take_ends hi
 have eL:∀i,(E i).length≤128:=fun i=>by rw [hE,qI8,List.length_take];omega
 generalize srt (qDq x r)=s at *
 rw [show qDq x r=E x.length by rw [hE,List.take_of_length_le (Nat.le_refl _)]] at so
 generalize qAc x r=q at *
 clear hE hx el oe
 refine qAa tab Tryz.func47 rfl rfl (lblz rfl) (fun w0 F0=>?_)
 repeat' (first|refine wG ?_|refine rg 5 14 ?_|refine wS ?_ ?_<;>intro _|refine finG ?_)
 refine qB3 5 500 27 3 qC 0 rfl ?_
 refine qAi (fun (i:Nat)=>([(0,.d (qsD x)),(3,.ptr 3 0),(5,qO (E i).length),(6,.d (.int .i64 i))],[(3,.box 27 ((rC (rq r)).map V.d)),(500,qB (E i))])) (fun i=>i≤x.length) (fun i=>x.length-i) 0 (by omega) ⟨rfl,rfl,qEn (by rw [e0];rfl),rfl,rfl⟩ ⟨rfl,qBr (by rw [e0]),trivial⟩ (fun i hi=>?_)
 have hel:=eL i
 by_cases h3:i<x.length
 ·have s1:=qIv (x.getD i 0) r ((og i).mono (by decide)) (or.mono (by decide))
  have a1:=qLh (x.getD i 0) r ((og i).mono (by decide)) (or.mono (by decide))
  have st:=eS i h3
  clear og eS eL
  repeat' (first|refine wG ?_|refine wC s1 ?_|refine wC a1 ?_|refine rg 5 14 ?_|refine wS ?_ ?_<;>intro _|refine finG ?_)
  exact ⟨i+1,by omega,by omega,⟨rfl,rfl,qEn (by rw [st]),iv (by omega),rfl⟩,rfl,qBr (by rw [st]),trivial⟩
 ·have e:i=x.length:=by omega
  subst e
  clear og eS eL
  repeat' (first|refine wG ?_|refine wC so ?_|refine wC ds ?_|refine rg 5 14 ?_|refine wS ?_ ?_<;>intro _|refine finG ?_)
  rfl
def xN(n:Nat):List Rat:=List.replicate n 0++[1]
structure XOk (n:Nat) (E:List Rat):Prop where
 e:derP (xN n)=E
 tx:qAd (xN n)=xN n
 ty:qAd (xN (n-1))=xN (n-1)
 m:qA7 E=xN (n-1)
 mx:qA7 (xN (n-1))=xN (n-1)
 r:remP (xN n) E=[]
 q:divP (xN n) (xN (n-1))=([0,1],[])
 s1:smB (xN n)=true
 s2:smB (xN (n-1))=true
 s3:smB E=true
 l1:(xN n).length=n+1
 l2:(xN (n-1)).length=n
 l3:E.length=n
 n0:1≤n
 n1:n≤30
end Go.Proofs.YtejigedigmagdaaGreat
set_option linter.unusedSectionVars false
namespace Go.Vw
open Go.RowKit
section
variable {ex:Bool} {X:Ctx} {all:Array Oper} {Q:Exit->St->Prop} {s:St} {o:Oper} {pre rest:List Oper} {d:Tmp}
end
end Go.Vw
namespace Go.Proofs.YtejigedigmagdaaGreat
open Go.Vw
attribute [local irreducible] awp awpL awpR
theorem numQ2(v:Int):okQ 2 (numQ v):=by
 have lm:∀n,n<4294967296->(qAe n).length<2:=fun n h=>by
  rcases Nat.eq_zero_or_pos n with e|e
  ·subst e;rw [qAk];decide
  ·rw [qCp (by show n<4294967296;omega) (by omega)];simp
 exact qHa (by omega) (lm _ (by omega)) (lm _ (by omega))
theorem ht2{p:List Rat}(hp:∀x∈p,okQ 2 x){n:Nat}(hl:p.length≤n):HtP (n*2+2) (qAd p):=(HtP.of_ok (by decide) p hp).trim.mono (by omega)
theorem qIt(l:List R3)(i:Nat)(hl:l.length≤1000)(hi:i≤2000):Ret Tryz.prog 194 [rsD l,.int .i64 i] (·=rD (l.getD i r0)):=by
 by_cases h:i<l.length
 ·refine qAa tab Tryz.func194 rfl rfl (lblz rfl) (fun w0 F0=>?_)
  repeat' (first|refine wG ?_|refine wS ?_ ?_<;>intro _|refine finG ?_)
  rfl
 ·rw [show l.getD i r0=r0 by rw [List.getD_eq_getElem?_getD,List.getElem?_eq_none (by omega)];rfl]
  refine qAa tab Tryz.func194 rfl rfl (lblz rfl) (fun w0 F0=>?_)
  repeat' (first|refine wG ?_|refine wS ?_ ?_<;>intro _|(show qA5 _ _ _ _ _;first|refine finF true rfl rfl sc ?_|refine finF false rfl rfl sc ?_|refine finC false rfl rfl sc sc ?_|refine finN rfl rfl sc ?_|refine finL true rfl rfl sc rfl (LeR.cons rfl leL LeR.nil) ?_|refine finA true rfl rfl sc ?_|refine finA false rfl rfl sc ?_|refine finE true rfl rfl sc ?_|refine finE false rfl rfl sc ?_))
  exact leL
theorem qQ3(l:List Rat)(hn:l.length≤1000)(hl:∀x∈l,okQ 10000000 x):Ret Tryz.prog 189 [qsD l] (·=qsD (qAd l)):=by
 have h:=qE8 (l.map rq) (by rw [List.length_map];exact hn) (qBq hl)
 rw [qAf] at h
 exact h.args (qCw l (LeT.refl _))
theorem qT7(g:Nat->Rat)(i:Nat):(List.range i).map g++[g i]=(List.range (i+1)).map g:=by rw [List.range_succ,List.map_append];rfl
theorem qM6(p q:List R3)(hp:p.length≤500)(hq:q.length≤500)(kp:∀r∈p,RatOk r 5000000)(kq:∀r∈q,RatOk r 5000000):Ret Tryz.prog 166 [rsD p,rsD q] (·=qsD (qAd (addC (p.map rv) (q.map rv)))):=by
 obtain ⟨m,hm⟩:∃m,max p.length q.length=m:=⟨_,rfl⟩
 obtain ⟨g,hg⟩:∃g:Nat->Rat,∀i,g i=rv (p.getD i r0)+rv (q.getD i r0):=⟨fun i=>rv (p.getD i r0)+rv (q.getD i r0),fun _=>rfl⟩
 have e:qAd ((List.range m).map g)=qAd (addC (p.map rv) (q.map rv)):=qEg fun i=>by
  rw [qQk,qBg,hg,qPs,qPs]
  split
  ·rfl
  ·rw [qCr (by rw [List.length_map];omega),qCr (by rw [List.length_map];omega)];grind
 have og:∀i,okQ 10000000 (g i):=fun i=>by
  rw [hg];exact (qAx (qC5 kp (by decide) i) (by decide)).add (qAx (qC5 kq (by decide) i) (by decide))
 have tm:=qQ3 ((List.range m).map g) (by simp;omega) (fun x hx=>by
  obtain ⟨i,_,rfl⟩:=List.mem_map.1 hx
  exact og i)
 rw [e] at tm
 generalize qAd (addC (p.map rv) (q.map rv))=R at *
 clear e
 refine qAa tab Tryz.func166 rfl rfl (lblz rfl) (fun w0 F0=>?_)
 repeat' (first|refine wG ?_|refine wS ?_ ?_<;>intro _|refine finG ?_)
 refine qB3 5 500 27 3 qC 0 rfl ?_
 refine qAi (fun (i:Nat)=>([(0,.d (rsD p)),(1,.d (rsD q)),(5,qO i),(6,.d (.int .i64 i))],[(500,qB ((List.range i).map g))])) (fun i=>i≤m) (fun i=>m-i) 0 (by omega) ⟨rfl,rfl,rfl,rfl,rfl⟩ ⟨rfl,trivial⟩ (fun i hi=>?_)
 have hlq:((List.range i).map g).length=i:=by simp
 by_cases h3:i<m
 ·have c1:=qIt p i (by omega) (by omega)
  have c2:=qIt q i (by omega) (by omega)
  have a1:=qNb (p.getD i r0) (q.getD i r0) ((qC5 kp (by decide) i).up (by decide)) ((qC5 kq (by decide) i).up (by decide))
  rw [←hg i] at a1
  have et:=qT7 g i
  obtain ⟨B,hB⟩:∃B,(List.range (i+1)).map g=B:=⟨_,rfl⟩
  rw [hB] at et
  generalize (List.range i).map g=A at *
  generalize g i=x at *
  clear kp kq hg og tm
  repeat' (first|refine wG ?_|refine wC c1 ?_|refine wC c2 ?_|refine wC a1 ?_|refine wS ?_ ?_<;>intro _|refine finG ?_)
  exact ⟨i+1,by omega,by omega,⟨rfl,rfl,qEn (by rw [List.length_append,hlq];rfl),iv (by omega),rfl⟩,qBr (et.trans hB.symm),trivial⟩
 ·have e:i=m:=by omega
  subst e
  generalize (List.range i).map g=A at *
  clear kp kq hg og
  repeat' (first|refine wG ?_|refine wC tm ?_|refine wS ?_ ?_<;>intro _|refine finG ?_)
  rfl
theorem qD8(p:List R3)(c:R3)(k:Nat)(hp:p.length≤400)(hk:k≤400)(kp:∀r∈p,RatOk r 5000000)(kc:RatOk c 5000000):Ret Tryz.prog 193 [rsD p,rD c,.int .i64 k] (·=qsD (qAd (qBn k (smul (rv c) (p.map rv))))):=by
 obtain ⟨g,hg⟩:∃g:Nat->Rat,∀i,g i=rv (p.getD i r0)*rv c:=⟨fun i=>rv (p.getD i r0)*rv c,fun _=>rfl⟩
 have og:∀i,okQ 10000000 (g i):=fun i=>by
  rw [hg];exact (qAx (qC5 kp (by decide) i) (by decide)).mul (qAx kc (by decide))
 have e:(List.replicate k r0++((List.range p.length).map g).map rq).map rv=qBn k (smul (rv c) (p.map rv)):=by
  rw [List.map_append,List.map_replicate,rv_r0,qAf,smul_getD (rv c) p g (fun i=>by rw [hg,Rat.mul_comm])]
  rfl
 have tm:=qE8 (List.replicate k r0++((List.range p.length).map g).map rq) (by simp;omega) (fun r hr=>by
  rcases List.mem_append.1 hr with h|h
  ·rw [(List.mem_replicate.1 h).2]
   have h2:=qAs (q:=0) (k:=10000000) (qB9 (by decide))
   rwa [show rq 0=r0 by decide+kernel] at h2
  ·obtain ⟨x,hx,rfl⟩:=List.mem_map.1 h
   obtain ⟨i,_,rfl⟩:=List.mem_map.1 hx
   exact qAs (og i))
 rw [e] at tm
 generalize qAd (qBn k (smul (rv c) (p.map rv)))=R at *
 clear e
 refine qAa tab Tryz.func193 rfl rfl (lblz rfl) (fun w0 F0=>?_)
 repeat' (first|refine wG ?_|refine stepMake (mm:=true) (en:=rC) (z:=r0) tt rfl rfl rfl rfl rfl rfl rfl rfl rfl rfl rfl rfl leL sc sc ?_|refine stepMake (mm:=false) (en:=rC) (z:=r0) tt rfl rfl rfl rfl rfl rfl rfl rfl rfl rfl rfl rfl leL sc sc ?_|refine rg 5 8 ?_|refine wS ?_ ?_<;>intro _|refine finG ?_)
 refine qAi (fun (i:Nat)=>([(0,.d (rsD p)),(4,.ptr 4 0),(7,.own 10 0 (k+i) 27 3),(8,.d (.int .i64 i))],[(4,.box 27 ((rC c).map V.d)),(10,.data 27 3 rC r0 (List.replicate k r0++((List.range i).map g).map rq))])) (fun i=>i≤p.length) (fun i=>p.length-i) 0 (by omega) ⟨rfl,rfl,rfl,rfl,rfl⟩ ⟨rfl,qBr (by simp),trivial⟩ (fun i hi=>?_)
 have hlq:(List.replicate k r0++((List.range i).map g).map rq).length=k+i:=by simp
 by_cases h3:i<p.length
 ·have m1:=qM8 (p.getD i r0) c ((qC5 kp (by decide) i).up (by decide)) (kc.up (by decide))
  rw [←hg i] at m1
  have et:(List.replicate k r0++((List.range i).map g).map rq)++[rq (g i)]=List.replicate k r0++((List.range (i+1)).map g).map rq:=by
   rw [←qT7 g i,List.map_append,List.append_assoc];rfl
  obtain ⟨B,hB⟩:∃B,List.replicate k r0++((List.range (i+1)).map g).map rq=B:=⟨_,rfl⟩
  rw [hB] at et
  generalize List.replicate k r0++((List.range i).map g).map rq=A at *
  generalize g i=x at *
  clear kp kc hg og tm
  repeat' (first|refine wG ?_|refine wC m1 ?_|refine rg 5 8 ?_|refine wS ?_ ?_<;>intro _|refine finG ?_)
  exact ⟨i+1,by omega,by omega,⟨rfl,rfl,qEn (by rw [List.length_append,hlq];rfl),iv (by omega),rfl⟩,rfl,qBr (et.trans hB.symm),trivial⟩
 ·have e:i=p.length:=by omega
  subst e
  generalize List.replicate k r0++((List.range p.length).map g).map rq=A at *
  clear kp kc hg og
  repeat' (first|refine wG ?_|refine wC tm ?_|refine rg 5 8 ?_|refine wS ?_ ?_<;>intro _|refine finG ?_)
  rfl
theorem ref05_Sub(p q:List R3)(hp:p.length≤400)(hq:q.length≤400)(kp:∀r∈p,RatOk r 5000000)(kq:∀r∈q,RatOk r 4000000):Ret Tryz.prog 165 [rsD p,rsD q] (·=qsD (qAd (subC (p.map rv) (q.map rv)))):=by
 have f1:=qBc (-1) (by decide) (by decide)
 have s1:=qD8 q (rq ((-1:Int):Rat)) 0 hq (by omega) (fun r hr=>(kq r hr).up (by decide)) (qAs ((qF6 (by decide)).mono (by decide)))
 rw [qAw,show (qBn 0 (smul ((-1:Int):Rat) (q.map rv)))=negC (q.map rv) from rfl] at s1
 have kn:∀x∈qAd (negC (q.map rv)),okQ 5000000 x:=cf_ok fun i=>by
  rw [qBi,cf_neg]
  refine okQ.neg ?_
  exact (qCv (fun x hx=>by
   obtain ⟨r,hr,rfl⟩:=List.mem_map.1 hx
   exact qAx (kq r hr) (by decide)) (by decide) i).mono (show 4000000≤5000000 by decide)
 have ln:(qAd (negC (q.map rv))).length≤500:=by
  have:=qAu (negC (q.map rv))
  have e:(negC (q.map rv)).length=q.length:=by show (smul (-1) _).length=_;rw [qBd,List.length_map]
  omega
 have a1:=qM6 p ((qAd (negC (q.map rv))).map rq) (by omega) (by rw [List.length_map];exact ln) kp (qBq kn)
 rw [qAf,show qAd (addC (p.map rv) (qAd (negC (q.map rv))))=qAd (subC (p.map rv) (q.map rv)) from qEg (qMu (Eqv.refl _) (qCf _))] at a1
 have a2:Ret Tryz.prog 166 [rsD p,qsD (qAd (negC (q.map rv)))] (·=qsD (qAd (subC (p.map rv) (q.map rv)))):=a1.args (LeT.cons (LeD.refl _) (qCw _ (LeT.refl _)))
 generalize qAd (subC (p.map rv) (q.map rv))=R at *
 generalize qAd (negC (q.map rv))=S at *
 generalize ((-1:Int):Rat)=m1 at *
 clear kp kq a1 kn
 refine qAa tab Tryz.func165 rfl rfl (lblz rfl) (fun w0 F0=>?_)
 repeat' (first|refine wG ?_|refine wC f1 ?_|refine wC s1 ?_|refine wC a2 ?_|refine wS ?_ ?_<;>intro _|refine finG ?_)
 rfl
theorem qPh(p:List Rat)(hT:Tr p)(hp:p.length≤400)(kp:∀x∈p,okQ 2000000 x):Ret Tryz.prog 223 [qsD p] (·=qsD (qA7 p)):=by
 by_cases h0:p=[]
 ·subst h0
  show Ret _ _ _ (·=qsD [])
  refine qAa tab Tryz.func223 rfl rfl (lblz rfl) (fun w0 F0=>?_)
  repeat' (first|refine wG ?_|refine rg 3 9 ?_|refine wS ?_ ?_<;>intro _|(show qA5 _ _ _ _ _;first|refine finF true rfl rfl sc ?_|refine finF false rfl rfl sc ?_|refine finC false rfl rfl sc sc ?_|refine finN rfl rfl sc ?_|refine finL true rfl rfl sc rfl (LeR.cons rfl leL LeR.nil) ?_|refine finA true rfl rfl sc ?_|refine finA false rfl rfl sc ?_|refine finE true rfl rfl sc ?_|refine finE false rfl rfl sc ?_))
  all_goals rfl
 ·have h1:=qA2 h0
  have e1:((p.length:Int)-1).toNat=p.length-1:=by omega
  have f1:=qBc 1 (by decide) (by decide)
  have q1:=qG5 ((1:Int):Rat) (lead p) ((qF6 (by decide)).mono (show _≤10000000 by decide)) ((qCv kp (by decide) _).mono (by decide)) (qCo hT h0)
  have oc:okQ 3000000 (((1:Int):Rat)/lead p):=((qF6 (v:=1) (by decide)).div (qCv kp (by decide) (p.length-1)) (qCo hT h0)).mono (by decide)
  have s1:=qD8 (p.map rq) (rq (((1:Int):Rat)/lead p)) 0 (by rw [List.length_map];exact hp) (by omega) (qBq fun x hx=>(kp x hx).mono (by decide)) (qAs (oc.mono (by decide)))
  rw [qAf,qAw,show (qBn 0 (smul (((1:Int):Rat)/lead p) p))=qA7 p from rfl,qAr (qEv hT)] at s1
  have s2:=s1.args (qCw p (LeT.refl _))
  have q2:Ret Tryz.prog 26 [qD ((1:Int):Rat),qD (p.getD ((p.length:Int)-1).toNat 0)] (·=qD (((1:Int):Rat)/lead p)):=by rw [e1];exact q1
  generalize ((1:Int):Rat)/lead p=c at *
  generalize ((1:Int):Rat)=u at *
  generalize qA7 p=R at *
  clear kp q1 s1
  refine qAa tab Tryz.func223 rfl rfl (lblz rfl) (fun w0 F0=>?_)
  repeat' (first|refine wG ?_|refine wC f1 ?_|refine wC q2 ?_|refine wC s2 ?_|refine rg 3 9 ?_|refine wS ?_ ?_<;>intro _|refine finG ?_)
  rfl
theorem qJ3(p:List R3)(hp:p.length≤400)(kp:∀r∈p,RatOk r 5000000):Ret Tryz.prog 210 [rsD p] (·=qsD (derP (p.map rv))):=by
 obtain ⟨m,hm⟩:∃m,p.length=m:=⟨_,rfl⟩
 have hdl:=qH8 (p.map rv)
 rw [List.length_map,hm] at hdl
 have hok:∀q∈derC (p.map rv),okQ 5000003 q:=fun q hq=>by
  obtain ⟨i,hi,rfl⟩:=List.getElem_of_mem hq
  have e:=qGo (p.map rv) i
  rw [qN4 hi] at e
  rw [e,←qPs]
  exact ((okQ_nat (n:=i+1) (by omega)).mul (qAx (qC5 kp (by decide) (i+1)) (by decide))).mono (by decide)
 have ht2:=qQ3 (derC (p.map rv)) (by omega) (fun q hq=>(hok q hq).mono (by decide))
 rw [show qAd (derC (p.map rv))=derP (p.map rv) from rfl] at ht2
 clear hok
 generalize derP (p.map rv)=R at *
 refine qAa tab Tryz.func210 rfl rfl (lblz rfl) (fun w0 F0=>?_)
 repeat' (first|refine wG ?_|refine rg 5 9 ?_|refine wS ?_ ?_<;>intro _|refine finG ?_)
 refine qB3 3 500 27 3 qC 0 rfl ?_
 refine qAi (fun (i:Nat)=>([(0,.d (rsD p)),(3,qO i),(4,.d (.int .i64 ((i:Int)+1)))],[(500,qB ((derC (p.map rv)).take i))])) (fun i=>i≤m-1) (fun i=>m-i) 0 (by omega) ⟨rfl,rfl,rfl,rfl⟩ ⟨rfl,trivial⟩ (fun i hi=>?_)
 have hlq:((derC (p.map rv)).take i).length=i:=by rw [List.length_take];omega
 by_cases h3:i+1<m
 ·have f1:=qBc ((i:Int)+1) (by omega) (by omega)
  have ei:((i:Int)+1).toNat=i+1:=by omega
  have m1:=qM8 (p.getD ((i:Int)+1).toNat r0) (rq (((i:Int)+1:Int):Rat)) ((qC5 kp (by decide) _).up (by decide)) (qAs ((okQ_nat (n:=i+1) (by omega)).mono (by decide)))
  rw [qAw] at m1
  have et:=der_take (p:=p.map rv) (i:=i) (by rw [List.length_map];omega)
  rw [gRv (by omega),Rat.mul_comm,show (((i+1:Nat):Int))=(i:Int)+1 by omega] at et
  have e5:p.getD (i+1) r0=p.getD ((i:Int)+1).toNat r0:=by rw [ei]
  rw [e5] at et
  obtain ⟨B,hB⟩:∃B,(derC (p.map rv)).take (i+1)=B:=⟨_,rfl⟩
  rw [hB] at et
  generalize (derC (p.map rv)).take i=A at *
  generalize rv (p.getD ((i:Int)+1).toNat r0)*((((i:Int)+1:Int)):Rat)=x at *
  generalize ((((i:Int)+1:Int)):Rat)=y at *
  clear kp e5
  repeat' (first|refine wG ?_|refine wC f1 ?_|refine wC m1 ?_|refine rg 5 9 ?_|refine wS ?_ ?_<;>intro _|refine finG ?_)
  exact ⟨i+1,by omega,by omega,⟨rfl,qEn (by rw [List.length_append,hlq];rfl),iv (by omega),rfl⟩,qBr (et.trans hB.symm),trivial⟩
 ·rw [List.take_of_length_le (show (derC (p.map rv)).length≤i by omega)] at hlq ⊢
  generalize derC (p.map rv)=A at *
  clear kp
  repeat' (first|refine wG ?_|refine wC ht2 ?_|refine rg 5 9 ?_|refine wS ?_ ?_<;>intro _|refine finG ?_)
  rfl
theorem rvs_ok{p:List R3}{K:Nat}(h:∀r∈p,RatOk r K)(hK:1<K):∀x∈p.map rv,okQ K x:=fun x hx=>by
 obtain ⟨r,hr,rfl⟩:=List.mem_map.1 hx
 exact qAx (h r hr) hK
theorem ref05_Mul(p q:List R3)(K:Nat)(hp:p.length≤100)(hq:q.length≤100)(kp:∀r∈p,RatOk r K)(kq:∀r∈q,RatOk r K)(hK:1<K)(hK2:K*(2*q.length+3)≤4000000):Ret Tryz.prog 164 [rsD p,rsD q] (·=qsD (qAd (mulC (p.map rv) (q.map rv)))):=by
 have hK3:K≤1333334:=by
  have:=Nat.mul_le_mul_left K (show 3≤2*q.length+3 by omega)
  omega
 have op:=rvs_ok kp hK
 have oq:=rvs_ok kq hK
 have fin:qAd (mulC ((q.map rv).take q.length) (p.map rv))=qAd (mulC (p.map rv) (q.map rv)):=by
  rw [List.take_of_length_le (by rw [List.length_map];omega)]
  exact qEg (qCm _ _)
 rw [←fin]
 obtain ⟨A,hA⟩:∃A:Nat->List Rat,∀i,A i=qAd (mulC ((q.map rv).take i) (p.map rv)):=⟨fun i=>qAd (mulC ((q.map rv).take i) (p.map rv)),fun _=>rfl⟩
 have oA:∀i,i≤q.length->∀x∈A i,okQ 4000000 x:=fun i hi x hx=>by
  rw [hA] at hx
  refine cf_ok (fun k=>?_) x (qLc hx)
  rw [show cf (mulC ((q.map rv).take i) (p.map rv)) k=rowV (q.map rv) (p.map rv) i 0 k by
   unfold rowV
   rw [List.take_zero,qBu]
   simp [smul,Rat.add_zero]]
  refine (ok_row oq op hK (by rw [List.length_map];exact hi) 0 k).mono ?_
  have h1:2*K*i+3*K=K*(2*i+3):=by rw [Nat.mul_add,Nat.mul_comm K 3,←Nat.mul_assoc,Nat.mul_comm K 2]
  have h2:=Nat.mul_le_mul_left K (show 2*i+3≤2*q.length+3 by omega)
  omega
 have lA:∀i,(A i).length≤300:=fun i=>by
  rw [hA]
  refine (qAl (mulC ((q.map rv).take i) (p.map rv))).len_lt fun j hj=>?_
  rw [qBi]
  exact (qEz ((q.map rv).take i) (p.map rv) q.length p.length (fun j hj=>qCr (by rw [List.length_take,List.length_map];omega)) (fun j hj=>qCr (by rw [List.length_map];omega))).2 j (by omega)
 have sA:∀i,i<q.length->qAd (addC (A i) (qAd (qBn i (smul (rv (q.getD i r0)) (p.map rv)))))=A (i+1):=fun i hi=>by
  rw [hA,hA]
  have e:(q.map rv).take (i+1)=(q.map rv).take i++[rv (q.getD i r0)]:=by
   rw [List.take_add_one,List.getElem?_map,List.getD_eq_getElem?_getD,List.getElem?_eq_getElem hi];rfl
  rw [e]
  refine qEg ((qMu (qCf _) (qCf _)).trans ?_)
  have:=mul_snoc ((q.map rv).take i) (rv (q.getD i r0)) (p.map rv)
  rw [List.length_take,List.length_map,show min i q.length=i by omega] at this
  exact this.symm
 have a0:A 0=[]:=by rw [hA,List.take_zero];rfl
 rw [←hA]
 clear hA fin
 refine qAa tab Tryz.func164 rfl rfl (lblz rfl) (fun w0 F0=>?_)
 repeat' (first|refine wG ?_|refine wS ?_ ?_<;>intro _|refine finG ?_)
 refine qJx 5 3 qC 0 rfl ?_
 refine qAi (fun (i:Nat)=>([(0,.d (rsD p)),(1,.d (rsD q)),(5,.d (qsD (A i))),(6,.d (.int .i64 i))],[])) (fun i=>i≤q.length) (fun i=>q.length-i) 0 (by omega) ⟨rfl,rfl,(by rw [a0];rfl),rfl,rfl⟩ trivial (fun i hi=>?_)
 by_cases h3:i<q.length
 ·have s1:=qD8 p (q.getD i r0) i (by omega) (by omega) (fun r hr=>(kp r hr).up (by omega)) ((qC5 kq hK i).up (by omega))
  have oS:∀x∈qAd (qBn i (smul (rv (q.getD i r0)) (p.map rv))),okQ 5000000 x:=cf_ok fun k=>by
   rw [qBi,qBu]
   split
   ·exact qB9 (by decide)
   ·rw [qA6];exact ((qAx (qC5 kq hK i) hK).mul (qCv op hK _)).mono (by omega)
  have lS:(qAd (qBn i (smul (rv (q.getD i r0)) (p.map rv)))).length≤500:=by
   have h1:=qAu (qBn i (smul (rv (q.getD i r0)) (p.map rv)))
   have h2:(qBn i (smul (rv (q.getD i r0)) (p.map rv))).length=i+p.length:=by
    unfold qBn;rw [List.length_append,List.length_replicate,qBd,List.length_map]
   omega
  have a1:=qM6 ((A i).map rq) ((qAd (qBn i (smul (rv (q.getD i r0)) (p.map rv)))).map rq) (by rw [List.length_map];have:=lA i;omega) (by rw [List.length_map];exact lS) (qBq fun x hx=>(oA i hi x hx).mono (by decide)) (qBq oS)
  rw [qAf,qAf,sA i h3] at a1
  have a2:=a1.args (qCw _ (qCw _ (LeT.refl _)))
  generalize qAd (qBn i (smul (rv (q.getD i r0)) (p.map rv)))=S at *
  clear oA lA sA op oq kp kq a1 oS lS
  repeat' (first|refine wG ?_|refine wC s1 ?_|refine wC a2 ?_|refine wS ?_ ?_<;>intro _|refine finG ?_)
  exact ⟨i+1,by omega,by omega,⟨rfl,rfl,rfl,iv (by omega),rfl⟩,trivial⟩
 ·have e:i=q.length:=by omega
  subst e
  clear oA lA sA op oq kp kq
  repeat' (first|refine wG ?_|refine wS ?_ ?_<;>intro _|refine finG ?_)
  rfl
theorem stepQ_eq(q r d:List Rat)(c:Rat)(hc:c=remC r d):qAd (addC q (qAd (qBn (remK r d) (smul 1 [c]))))=qD2 q r d:=by
 subst hc
 unfold qD2
 refine qEg ((qMu (Eqv.refl _) (qCf _)).trans ?_)
 rw [qDk]
 exact Eqv.refl _
theorem stepR_eq(r d:List Rat):qAd (subC r (qAd (qBn (remK r d) (smul (remC r d) d))))=stepRP r d:=by
 unfold stepRP
 refine qEg fun i=>?_
 rw [qJ9,qJ9,qBi]
theorem ref05_Div(a b:List R3){h l:Nat}(d0:qAd (b.map rv)≠[])(lp:a.length≤100)(ka:∀r∈a,RatOk r 10000000)(ld:b.length≤100)(kb:∀r∈b,RatOk r 10000000)(H:HtP h (qAd (a.map rv)))(L:HtP l (qAd (b.map rv)))(hb:h+((qAd (a.map rv)).length+1-(qAd (b.map rv)).length)*l+l≤2000000):Ret Tryz.prog 211 [rsD a,rsD b] (·= .tup [qsD (divP (qAd (a.map rv)) (qAd (b.map rv))).1,qsD (divP (qAd (a.map rv)) (qAd (b.map rv))).2,.int .i64 0]):=by
 have ta:=qE8 a (by omega) ka
 have tb:=qE8 b (by omega) kb
 have la:=qAu (a.map rv)
 have lb:=qAu (b.map rv)
 rw [List.length_map] at la lb
 have hpT:=qAl (a.map rv)
 have hdT:=qAl (b.map rv)
 generalize qAd (a.map rv)=p at *
 generalize qAd (b.map rv)=d at *
 have h1:=HtP.gt H
 have l1:=HtP.gt L
 have f1:=qBc 1 (by decide) (by decide)
 have dl:0<d.length:=qA2 d0
 obtain ⟨N,hN⟩:∃N,p.length+1-d.length=N:=⟨_,rfl⟩
 rw [hN] at hb
 have ldd:lead d≠0:=qCo hdT d0
 have od:∀x∈d,okQ 2000000 x:=fun x hx=>(L.okL x hx).mono (by omega)
 obtain ⟨Z,hZ⟩:∃Z,divP p d=Z:=⟨_,rfl⟩
 have hst:divL (p.length+1) [] p d=Z:=hZ
 rw [hZ]
 clear ka kb
 refine qAa tab Tryz.func211 rfl rfl (lblz rfl) (fun w0 F0=>?_)
 repeat' (first|refine wG ?_|refine wC ta ?_|refine wC tb ?_|refine rgK 6 20 [8] ?_|refine rg 7 6 ?_|refine wS ?_ ?_<;>intro _|refine finG ?_)
 refine qJx 7 3 qC 0 rfl ?_
 refine qAi (fun (x:List Rat×List Rat×Nat)=>([(0,.d (qsD x.2.1)),(1,.d (qsD d)),(7,.d (qsD x.1))],[])) (fun x=>Tr x.2.1∧x.2.1.length<x.2.2∧divL x.2.2 x.1 x.2.1 d=Z∧x.2.1.length≤p.length∧(∀i,okQ 2000000 (cf x.1 i))∧(∀i,i+d.length≤x.2.1.length->cf x.1 i=0)∧x.1.length≤N∧∃k,k+(x.2.1.length+1-d.length)≤N∧HtP (h+k*l) x.2.1) (fun x=>x.2.1.length) ([],p,p.length+1) ⟨hpT,Nat.lt_succ_self _,hst,Nat.le_refl _,fun _=>qB9 (by decide),fun _ _=>rfl,Nat.zero_le _,0,by show 0+(p.length+1-d.length)≤N;omega,H.mono (by omega)⟩ ⟨rfl,rfl,rfl,rfl⟩ trivial (fun x hx=>?_)
 obtain ⟨q,r,n⟩:=x
 obtain ⟨i1,i2,i3,i4,i5,i6,i7,k,i8,i9⟩:=hx
 dsimp only at i1 i2 i3 i4 i5 i6 i7 i8 i9 ⊢
 obtain ⟨n,rfl⟩:∃m,n=m+1:=⟨n-1,by omega⟩
 rw [divL] at i3
 by_cases h3:d.length≤r.length
 ·rw [if_neg (by omega)] at i3
  have hkl:=Nat.mul_le_mul_right l (show k≤N by omega)
  have kl2:h+k*l+l≤2000000:=by omega
  have or:∀x∈r,okQ 2000000 x:=fun x hx=>(i9.okL x hx).mono (by omega)
  have hrl:=qE6 i1 hdT d0 h3
  have hht:=i9.stepRP L ldd
  have oc:=(remC_ok i9 L ldd).mono (show _≤2000000 by omega)
  have e1:((r.length:Int)-1).toNat=r.length-1:=by omega
  have e2:((d.length:Int)-1).toNat=d.length-1:=by omega
  have d1:=qG5 (lead r) (lead d) ((qCv or (by decide) _).mono (by decide)) ((qCv od (by decide) _).mono (by decide)) ldd
  have d2:Ret Tryz.prog 26 [qD (r.getD ((r.length:Int)-1).toNat 0),qD (d.getD ((d.length:Int)-1).toNat 0)] (·=qD (remC r d)):=by rw [e1,e2];exact d1
  obtain ⟨K,hK⟩:∃K,remK r d=K:=⟨_,rfl⟩
  have hK2:K=r.length-d.length:=hK.symm
  have eq1:=stepQ_eq q r d (remC r d) rfl
  have er1:=stepR_eq r d
  have ecq:∀i,cf (qD2 q r d) i=if i=K then remC r d else cf q i:=fun i=>by
   rw [←hK]
   unfold qD2
   rw [qBi,qBg,qBu]
   by_cases g:i=remK r d
   ·subst g
    rw [if_neg (by omega),Nat.sub_self,cf_zero,if_pos rfl,i6 _ (by unfold remK;omega),Rat.zero_add]
   ·rw [if_neg g]
    split
    ·rw [Rat.add_zero]
    ·rw [qCr (p:=[remC r d]) (by show 1≤i-remK r d;omega),Rat.add_zero]
  have oq2:∀i,okQ 2000000 (cf (qD2 q r d) i):=fun i=>by
   rw [ecq];split
   ·exact oc
   ·exact i5 i
  have zq2:∀i,i+d.length≤(stepRP r d).length->cf (qD2 q r d) i=0:=fun i hi=>by
   rw [ecq,if_neg (by omega)];exact i6 i (by omega)
  have lq2:(qD2 q r d).length≤N:=(qAl _).len_lt fun i hi=>by
   show cf (qD2 q r d) i=0
   rw [ecq,if_neg (by omega)];exact qCr (by omega)
  rw [hK] at eq1 er1
  have s1:=qD8 [rq (remC r d)] (rq ((1:Int):Rat)) K (by simp) (by omega) (fun x hx=>by
   rw [List.mem_singleton.1 hx];exact qAs (oc.mono (by decide))) (qAs ((qF6 (by decide)).mono (by decide)))
  rw [List.map_cons,List.map_nil,qAw,qAw,show (smul ((1:Int):Rat) [remC r d])=smul 1 [remC r d] from rfl] at s1
  have s2:=qD8 (d.map rq) (rq (remC r d)) K (by rw [List.length_map];omega) (by omega) (qBq fun x hx=>(od x hx).mono (by decide)) (qAs (oc.mono (by decide)))
  rw [qAf,qAw] at s2
  have s2:=s2.args (qCw d (LeT.refl _))
  have oS1:∀x∈qAd (qBn K (smul 1 [remC r d])),okQ 2000000 x:=cf_ok fun i=>by
   rw [qBi,qBu,qDk]
   split
   ·exact qB9 (by decide)
   ·exact qCv (fun x hx=>by rw [List.mem_singleton.1 hx];exact oc) (by decide) _
  have oS2:∀x∈qAd (qBn K (smul (remC r d) d)),okQ 4000000 x:=cf_ok fun i=>by
   rw [qBi,qBu]
   split
   ·exact qB9 (by decide)
   ·rw [qA6];exact oc.mul (qCv od (by decide) _)
  have lS1:(qAd (qBn K (smul 1 [remC r d]))).length≤400:=by
   have h1:=qAu (qBn K (smul 1 [remC r d]))
   have h2:(qBn K (smul 1 [remC r d])).length=K+1:=by
    unfold qBn;rw [List.length_append,List.length_replicate,qBd];rfl
   omega
  have lS2:(qAd (qBn K (smul (remC r d) d))).length≤400:=by
   have h1:=qAu (qBn K (smul (remC r d) d))
   have h2:(qBn K (smul (remC r d) d)).length=K+d.length:=by
    unfold qBn;rw [List.length_append,List.length_replicate,qBd]
   omega
  have a1:=qM6 (q.map rq) ((qAd (qBn K (smul 1 [remC r d]))).map rq) (by rw [List.length_map];omega) (by rw [List.length_map];omega) (qBq fun x hx=>(cf_ok i5 x hx).mono (by decide)) (qBq fun x hx=>(oS1 x hx).mono (by decide))
  rw [qAf,qAf,eq1] at a1
  have a2:=a1.args (qCw _ (qCw _ (LeT.refl _)))
  have b1:=ref05_Sub (r.map rq) ((qAd (qBn K (smul (remC r d) d))).map rq) (by rw [List.length_map];omega) (by rw [List.length_map];exact lS2) (qBq fun x hx=>(or x hx).mono (by decide)) (qBq fun x hx=>(oS2 x hx).mono (by decide))
  rw [qAf,qAf,er1] at b1
  have b2:=b1.args (qCw _ (qCw _ (LeT.refl _)))
  have htr:Tr (stepRP r d):=qAl _
  have hkf:∃k',k'+((stepRP r d).length+1-d.length)≤N∧HtP (h+k'*l) (stepRP r d):=⟨k+1,by omega,hht.mono (by rw [Nat.add_mul,Nat.one_mul];omega)⟩
  have hn2:(stepRP r d).length<n:=by omega
  have hr4:(stepRP r d).length≤p.length:=by omega
  generalize stepRP r d=r2 at *
  generalize qD2 q r d=q2 at *
  generalize qAd (qBn K (smul 1 [remC r d]))=S1 at *
  generalize qAd (qBn K (smul (remC r d) d))=S2 at *
  generalize remC r d=c at *
  generalize ((1:Int):Rat)=u at *
  have e3:((r.length:Int)-(d.length:Int))=(K:Int):=by omega
  rw [←e3] at s1 s2
  clear ta tb i5 i6 or od oS1 oS2 ecq d1 a1 b1 eq1 er1
  repeat' (first|refine wG ?_|refine wC d2 ?_|refine wC f1 ?_|refine wC s1 ?_|refine wC s2 ?_|refine wC a2 ?_|refine wC b2 ?_|refine rgK 6 20 [8] ?_|refine rg 7 6 ?_|refine wS ?_ ?_<;>intro _|refine finG ?_)
  exact ⟨(q2,r2,n),⟨htr,hn2,i3,hr4,oq2,zq2,lq2,hkf⟩,hrl,⟨rfl,rfl,rfl,rfl⟩,trivial⟩
 ·rw [if_pos (by omega)] at i3
  subst i3
  clear ta tb i5 i6 od
  repeat' (first|refine wG ?_|refine rgK 6 20 [8] ?_|refine rg 7 6 ?_|refine wS ?_ ?_<;>intro _|refine qFx ?_)
  all_goals first|rfl|exact LeT.refl _
theorem qOg(p d:List Rat){h l:Nat}(hp:Tr p)(hd:Tr d)(d0:d≠[])(lp:p.length≤100)(ld:d.length≤100)(H:HtP h p)(L:HtP l d)(hb:h+(p.length+1-d.length)*l+l≤2000000):Ret Tryz.prog 211 [qsD p,qsD d] (·= .tup [qsD (divP p d).1,qsD (divP p d).2,.int .i64 0]):=by
 have hv:=ref05_Div (p.map rq) (d.map rq) (h:=h) (l:=l) (by rw [qAf,qAr hd];exact d0) (by rw [List.length_map];exact lp) (qBq fun x hx=>(H.okL x hx).mono (by omega)) (by rw [List.length_map];exact ld) (qBq fun x hx=>(L.okL x hx).mono (by omega)) (by rw [qAf,qAr hp];exact H) (by rw [qAf,qAr hd];exact L) (by rw [qAf,qAf,qAr hp,qAr hd];exact hb)
 rw [qAf,qAf,qAr hp,qAr hd] at hv
 exact hv.args (qCw p (qCw d (LeT.refl _)))
theorem gcdP_step2{p q:List Rat}(hp:Tr p)(hq:Tr q)(q0:q≠[]):gcdP p q=gcdP q (qA7 (remP p q)):=by
 by_cases r0:remP p q=[]
 ·have:=qGn hp hq q0 (a:=1) (b:=1) (by decide) (by decide)
  rw [qDk,qDk,r0] at this
  rw [this,r0];rfl
 ·have:=qGn hp hq q0 (a:=1) (b:=1/lead (remP p q)) (by decide) (qJn (qEl hp hq q0) r0).1
  rw [qDk] at this
  exact this
theorem ref05_Gcd(a b:List R3)(ha:a.length≤99)(hb:b.length≤99)(ka:∀r∈a,RatOk r 10000000)(kb:∀r∈b,RatOk r 10000000)(hJ:JG (qAd (a.map rv)) (qAd (b.map rv))):Ret Tryz.prog 212 [rsD a,rsD b] (·=qsD (gcdP (qAd (a.map rv)) (qAd (b.map rv)))):=by
 have ta:=qE8 a (by omega) ka
 have tb:=qE8 b (by omega) kb
 have l1:=qAu (a.map rv)
 have l2:=qAu (b.map rv)
 rw [List.length_map] at l1 l2
 generalize qAd (a.map rv)=p0 at *
 generalize qAd (b.map rv)=q0 at *
 obtain ⟨G,hG⟩:∃G,gcdP p0 q0=G:=⟨_,rfl⟩
 rw [hG]
 clear ka kb
 refine qAa tab Tryz.func212 rfl rfl (lblz rfl) (fun w0 F0=>?_)
 repeat' (first|refine wG ?_|refine wC ta ?_|refine wC tb ?_|refine wS ?_ ?_<;>intro _|refine finG ?_)
 refine qAi (fun (x:List Rat×List Rat)=>([(0,.d (qsD x.1)),(1,.d (qsD x.2))],[])) (fun x=>JG x.1 x.2∧gcdP x.1 x.2=G∧x.1.length≤100∧x.2.length≤100) (fun x=>x.2.length) (p0,q0) ⟨hJ,hG,by show p0.length≤100;omega,by show q0.length≤100;omega⟩ ⟨rfl,rfl,rfl⟩ trivial (fun x hx=>?_)
 obtain ⟨p,q⟩:=x
 obtain ⟨i1,i2,i3,i4⟩:=hx
 dsimp only at i1 i2 i3 i4 ⊢
 have fitM:∀M n,(M+1)*3^n≤Bud->M≤2000000:=fun M n h=>by
  have:=Nat.mul_le_mul_left (M+1) (show 1≤3^n from Nat.pow_pos (by decide))
  unfold Bud at h
  omega
 by_cases hq:q=[]
 ·subst hq
  rw [qG3] at i2
  obtain ⟨M,m1,m2,m3⟩:=i1.fit
  have hM:=fitM _ _ m3
  have s1:=qPh p i1.tp (by omega) (fun x hx=>(m1.okL x hx).mono (by omega))
  rw [i2] at s1
  have h0:([]:List Rat).length=0:=rfl
  clear hJ ta tb fitM
  repeat' (first|refine wG ?_|refine wC s1 ?_|refine wS ?_ ?_<;>intro _|refine finG ?_)
  rfl
 ·obtain ⟨M,m1,m2,m3,m4,m5,m6⟩:=i1.step2 hq
  have d1:=qOg p q i1.tp i1.tq hq i3 i4 m1 m2 m3
  have hl:=qC4 i1.tp i1.tq hq
  have s1:=qPh (remP p q) (qEl i1.tp i1.tq hq) (by omega) (fun x hx=>(m4.okL x hx).mono (by omega))
  have h1:=qA2 hq
  have st:=gcdP_step2 i1.tp i1.tq hq
  rw [i2] at st
  have lm:(qA7 (remP p q)).length=(remP p q).length:=qBd _ _
  rw [show (divP p q).2=remP p q from rfl] at d1
  generalize (divP p q).1=Z at *
  generalize qA7 (remP p q)=m at *
  generalize remP p q=r at *
  clear hJ ta tb fitM m1 m2 m3 m4 m5
  repeat' (first|refine wG ?_|refine wC d1 ?_|refine wC s1 ?_|refine wS ?_ ?_<;>intro _|refine finG ?_)
  exact ⟨(q,m),⟨m6,st.symm,i4,by show m.length≤100;omega⟩,by show m.length<q.length;omega,⟨rfl,rfl,rfl⟩,trivial⟩
theorem ref05_negQ(r:List Rat)(hT:Tr r)(hr:r.length≤400)(ok:∀x∈r,okQ 5000000 x):Ret Tryz.prog 193 [qsD r,qD ((-1:Int):Rat),.int .i64 0] (·=qsD (negC r)):=by
 have h:=qD8 (r.map rq) (rq ((-1:Int):Rat)) 0 (by rw [List.length_map];exact hr) (by omega) (qBq ok) (qAs ((qF6 (by decide)).mono (by decide)))
 rw [qAf,qAw,show (qBn 0 (smul ((-1:Int):Rat) r))=negC r from rfl,qAr (qJ2 hT)] at h
 exact h.args (qCw r (LeT.refl _))
theorem ref03_AbsB(x:Rat)(h:okQ 10000000 x):Ret Tryz.prog 50 [qD x] (·=qD (absQ x)):=by
 have sg:=qD9 x (h.mono (by decide))
 have n1:=qQ8 (rq x) (qAs (h.mono (by decide)))
 rw [qAw] at n1
 have n2:=qMe x (h.mono (by decide))
 have hs:x.num.sign<0↔x<0:=by rw [←num_lt0,←Int.not_le,←Int.not_le,Int.sign_nonneg_iff]
 generalize x.num.sign=s at *
 unfold absQ
 by_cases c:x<0
 ·have hn:=hs.2 c
  rw [if_pos c]
  clear hs
  refine qAa tab Tryz.func50 rfl rfl (lblz rfl) (fun w0 F0=>?_)
  repeat' (first|refine wG ?_|refine wC sg ?_|refine wC n1 ?_|refine wS ?_ ?_<;>intro _|refine finG ?_)
  rfl
 ·have hn:=mt hs.1 c
  rw [if_neg c]
  clear hs
  refine qAa tab Tryz.func50 rfl rfl (lblz rfl) (fun w0 F0=>?_)
  repeat' (first|refine wG ?_|refine wC sg ?_|refine wC n2 ?_|refine wS ?_ ?_<;>intro _|refine finG ?_)
  rfl
theorem qQ2(p:List Rat)(hp:p.length≤400)(kp:∀x∈p,okQ 2000000 x)(hT:Tr p):Ret Tryz.prog 209 [qsD p] (·=qsD (qAz p)):=by
 by_cases h0:p=[]
 ·subst h0
  show Ret _ _ _ (·=qsD [])
  refine qAa tab Tryz.func209 rfl rfl (lblz rfl) (fun w0 F0=>?_)
  repeat' (first|refine wG ?_|refine rg 3 10 ?_|refine wS ?_ ?_<;>intro _|(show qA5 _ _ _ _ _;first|refine finF true rfl rfl sc ?_|refine finF false rfl rfl sc ?_|refine finC false rfl rfl sc sc ?_|refine finN rfl rfl sc ?_|refine finL true rfl rfl sc rfl (LeR.cons rfl leL LeR.nil) ?_|refine finA true rfl rfl sc ?_|refine finA false rfl rfl sc ?_|refine finE true rfl rfl sc ?_|refine finE false rfl rfl sc ?_))
  all_goals rfl
 ·have h1:=qA2 h0
  have e1:((p.length:Int)-1).toNat=p.length-1:=by omega
  have f1:=qBc 1 (by decide) (by decide)
  have a1:=ref03_AbsB (lead p) ((qCv kp (by decide) _).mono (by decide))
  have hab:absQ (lead p)≠0:=by
   have:=qCo hT h0
   unfold absQ
   split
   ·intro h;apply this;grind
   ·exact this
  have ka:okQ 2000000 (absQ (lead p)):=by
   have:=qCv kp (by decide) (p.length-1)
   unfold absQ
   split
   ·exact okQ.neg this
   ·exact this
  have q1:=qG5 ((1:Int):Rat) (absQ (lead p)) ((qF6 (by decide)).mono (show _≤10000000 by decide)) (ka.mono (by decide)) hab
  have oc:okQ 3000000 (((1:Int):Rat)/absQ (lead p)):=((qF6 (v:=1) (by decide)).div ka hab).mono (by decide)
  have s1:=qD8 (p.map rq) (rq (((1:Int):Rat)/absQ (lead p))) 0 (by rw [List.length_map];exact hp) (by omega) (qBq fun x hx=>(kp x hx).mono (by decide)) (qAs (oc.mono (by decide)))
  rw [qAf,qAw,show (qBn 0 (smul (((1:Int):Rat)/absQ (lead p)) p))=qAz p from rfl,qAr (chOk_small.tr p hT)] at s1
  have s2:=s1.args (qCw p (LeT.refl _))
  have a2:Ret Tryz.prog 50 [qD (p.getD ((p.length:Int)-1).toNat 0)] (·=qD (absQ (lead p))):=by rw [e1];exact a1
  generalize ((1:Int):Rat)/absQ (lead p)=c at *
  generalize absQ (lead p)=y at *
  generalize ((1:Int):Rat)=u at *
  generalize qAz p=R at *
  clear kp a1 s1
  refine qAa tab Tryz.func209 rfl rfl (lblz rfl) (fun w0 F0=>?_)
  repeat' (first|refine wG ?_|refine wC f1 ?_|refine wC a2 ?_|refine wC q1 ?_|refine wC s2 ?_|refine rg 3 10 ?_|refine wS ?_ ?_<;>intro _|refine finG ?_)
  rfl
theorem ref05_changes(F:List (List Rat))(x:R3)(hF:F.length≤1000)(he:∀i,i<F.length->Ret Tryz.prog 163 [qsD (F.getD i []),rD x] (·=qD (qAb (F.getD i []) (rv x)))∧okQ 10000000 (qAb (F.getD i []) (rv x))):Ret Tryz.prog 192 [qssD F,rD x] (·= .int .i64 (chg 0 (F.map fun f=>sgQ (qAb f (rv x))))):=by
 obtain ⟨S,hS⟩:∃S,(F.map fun f=>sgQ (qAb f (rv x)))=S:=⟨_,rfl⟩
 have hSl:S.length=F.length:=by rw [←hS,List.length_map]
 have hSi:∀i,i<F.length->S.drop i=sgQ (qAb (F.getD i []) (rv x))::S.drop (i+1):=fun i hi=>by
  rw [List.drop_eq_getElem_cons (by omega)]
  congr 1
  subst hS
  simp [List.getD_eq_getElem?_getD,hi]
 rw [hS]
 clear hS
 obtain ⟨R,hR⟩:∃R,chg 0 S=R:=⟨_,rfl⟩
 rw [hR]
 refine qAa tab Tryz.func192 rfl rfl (lblz rfl) (fun w0 F0=>?_)
 repeat' (first|refine wG ?_|refine rg 5 5 ?_|refine wS ?_ ?_<;>intro _|refine finG ?_)
 refine qAi (fun (y:Int×Int×Nat)=>([(0,.d (qssD F)),(3,.ptr 3 0),(5,.d (.int .i64 y.1)),(6,.d (.int .i64 y.2.1)),(7,.d (.int .i64 y.2.2))],[(3,.box 27 ((rC x).map V.d))])) (fun y=>0≤y.1∧y.1≤y.2.2∧ -1≤y.2.1∧y.2.1≤1∧y.2.2≤F.length∧y.1+chg y.2.1 (S.drop y.2.2)=R) (fun y=>F.length-y.2.2) (0,0,0) ⟨by decide,by decide,by decide,by decide,Nat.zero_le _,by show 0+chg 0 (S.drop 0)=R;rw [List.drop_zero,hR];omega⟩ ⟨rfl,rfl,rfl,rfl,rfl,rfl⟩ ⟨rfl,trivial⟩ (fun y hy=>?_)
 obtain ⟨n,last,i⟩:=y
 obtain ⟨i1,i2,i3,i4,i5,i6⟩:=hy
 dsimp only at i1 i2 i3 i4 i5 i6 ⊢
 by_cases h3:i<F.length
 ·obtain ⟨e1,e2⟩:=he i h3
  have e3:=qD9 _ e2
  rw [hSi i h3,chg] at i6
  have b1: -1≤sgQ (qAb (F.getD i []) (rv x))∧sgQ (qAb (F.getD i []) (rv x))≤1:=by
   unfold sgQ
   rcases Int.lt_trichotomy (qAb (F.getD i []) (rv x)).num 0 with h|h|h
   ·rw [Int.sign_eq_neg_one_of_neg h];decide
   ·rw [h];decide
   ·rw [Int.sign_eq_one_of_pos h];decide
  have e4:Ret Tryz.prog 32 [qD (qAb (F.getD i []) (rv x))] (·= .int .i64 (sgQ (qAb (F.getD i []) (rv x)))):=e3
  clear e3 e2 he hSi
  generalize sgQ (qAb (F.getD i []) (rv x))=s at *
  generalize qAb (F.getD i []) (rv x)=v at *
  obtain ⟨b1,b2⟩:=b1
  by_cases c0:s=0
  ·rw [if_neg (by omega),if_neg (by omega)] at i6
   repeat' (first|refine wG ?_|refine wC e1 ?_|refine wC e4 ?_|refine rg 5 5 ?_|refine wS ?_ ?_<;>intro _|refine finG ?_)
   all_goals exact ⟨(n,last,i+1),⟨i1,by show n≤((i+1:Nat):Int);omega,i3,i4,h3,by rw [←i6];show n+chg last (S.drop (i+1))=_;omega⟩,by show F.length-(i+1)<F.length-i;omega,⟨rfl,rfl,rfl,rfl,rfl,rfl⟩,rfl,trivial⟩
  ·rw [if_pos (show s≠0 from c0)] at i6
   by_cases c1:last≠0∧s≠last
   ·rw [if_pos ⟨c0,c1.1,c1.2⟩] at i6
    obtain ⟨c1,c2⟩:=c1
    repeat' (first|refine wG ?_|refine wC e1 ?_|refine wC e4 ?_|refine rg 5 5 ?_|refine wS ?_ ?_<;>intro _|refine finG ?_)
    all_goals exact ⟨(n+1,s,i+1),⟨by show 0≤n+1;omega,by show n+1≤((i+1:Nat):Int);omega,b1,b2,h3,by rw [←i6];show n+1+chg s (S.drop (i+1))=_;omega⟩,by show F.length-(i+1)<F.length-i;omega,⟨rfl,rfl,rfl,rfl,rfl,rfl⟩,rfl,trivial⟩
   ·rw [if_neg (fun h=>c1 ⟨h.2.1,h.2.2⟩)] at i6
    repeat' (first|refine wG ?_|refine wC e1 ?_|refine wC e4 ?_|refine rg 5 5 ?_|refine wS ?_ ?_<;>intro _|refine finG ?_)
    all_goals exact ⟨(n,s,i+1),⟨i1,by show n≤((i+1:Nat):Int);omega,b1,b2,h3,by rw [←i6];show n+chg s (S.drop (i+1))=_;omega⟩,by show F.length-(i+1)<F.length-i;omega,⟨rfl,rfl,rfl,rfl,rfl,rfl⟩,rfl,trivial⟩
 ·have e:i=F.length:=by omega
  rw [e,List.drop_of_length_le (by omega),chg] at i6
  clear he hSi
  repeat' (first|refine wG ?_|refine rg 5 5 ?_|refine wS ?_ ?_<;>intro _|refine finG ?_)
  rw [←i6,Int.add_zero]
theorem ref05_tame(P:List R3)(hP:P.length≤100)(kP:∀r∈P,RatOk r 5000000)(M:Nat)(hs:∀x∈qAd (P.map rv),okQ 2000000 x)(hs2:∀x∈derP (P.map rv),okQ 2000000 x)(hJ:JS (qAz (qAd (P.map rv))) (qAz (derP (P.map rv))) M):Ret Tryz.prog 190 [rsD P] (·=qssD (qBf qAz (P.length+1) (qAz (qAd (P.map rv))) (qAz (derP (P.map rv))))):=by
 have t1:=qE8 P (by omega) (fun r hr=>(kP r hr).up (by decide))
 have t2:=qJ3 P (by omega) kP
 have f1:=qBc (-1) (by decide) (by decide)
 have q1:=qAu (P.map rv)
 have q2:(derP (P.map rv)).length≤(derC (P.map rv)).length:=qAu (derC (P.map rv))
 rw [qH8] at q2
 rw [List.length_map] at q1 q2
 obtain ⟨n,hn0⟩:∃n,P.length+1=n:=⟨_,rfl⟩
 rw [hn0]
 have o1:=qQ2 (qAd (P.map rv)) (by omega) hs (qAl _)
 have o2:=qQ2 (derP (P.map rv)) (by omega) hs2 (qAl _)
 have w1:(qAz (qAd (P.map rv))).length=(qAd (P.map rv)).length:=qBd _ _
 have w2:(qAz (derP (P.map rv))).length=(derP (P.map rv)).length:=qBd _ _
 clear hs hs2
 generalize qAz (qAd (P.map rv))=a0 at *
 generalize qAz (derP (P.map rv))=b0 at *
 generalize qAd (P.map rv)=a00 at *
 generalize derP (P.map rv)=b00 at *
 obtain ⟨R,hR⟩:∃R,qBf qAz n a0 b0=R:=⟨_,rfl⟩
 rw [hR]
 clear kP
 refine qAa tab Tryz.func190 rfl rfl (lblz rfl) (fun w0 F0=>?_)
 repeat' (first|refine wG ?_|refine wC t1 ?_|refine wC t2 ?_|refine wC o1 ?_|refine wC o2 ?_|refine wS ?_ ?_<;>intro _|refine finG ?_)
 refine qB3 5 500 22 1 eQ [] rfl ?_
 refine qAi (fun (x:List (List Rat)×List Rat×List Rat×Nat)=>([(3,.d (qsD x.2.1)),(4,.d (qsD x.2.2.1)),(5,.own 500 0 x.1.length 22 1)],[(500,.data 22 1 eQ [] x.1)])) (fun x=>(∃M,JS x.2.1 x.2.2.1 M)∧x.2.2.1.length+1≤x.2.2.2∧x.1++qBf qAz x.2.2.2 x.2.1 x.2.2.1=R∧x.1.length+x.2.2.2≤1000∧x.2.1.length≤100∧x.2.2.1.length≤100) (fun x=>x.2.2.2) ([],a0,b0,n) ⟨⟨M,hJ⟩,by show b0.length+1≤n;omega,hR,by show 0+n≤1000;omega,by show a0.length≤100;omega,by show b0.length≤100;omega⟩ ⟨rfl,rfl,rfl,rfl⟩ ⟨rfl,trivial⟩ (fun x hx=>?_)
 obtain ⟨acc,a,b,k⟩:=x
 obtain ⟨⟨M',i1⟩,i2,i3,i4,i5,i6⟩:=hx
 dsimp only at i1 i2 i3 i4 i5 i6 ⊢
 obtain ⟨k,rfl⟩:∃j,k=j+1:=⟨k-1,by omega⟩
 rw [qBf] at i3
 by_cases ha:a=[]
 ·rw [if_pos ha,List.append_nil] at i3
  have h0:a.length=0:=by rw [ha];rfl
  rw [←i3]
  clear hJ t1 t2 o1 o2
  repeat' (first|refine wG ?_|refine wS ?_ ?_<;>intro _|refine finG ?_)
  rfl
 ·rw [if_neg ha] at i3
  have h0:=qA2 ha
  by_cases hb:b=[]
  ·rw [if_pos hb] at i3
   have h1:b.length=0:=by rw [hb];rfl
   rw [←i3]
   clear hJ t1 t2 o1 o2
   repeat' (first|refine wG ?_|refine wS ?_ ?_<;>intro _|refine finG ?_)
   rfl
  ·rw [if_neg hb] at i3
   have h1:=qA2 hb
   obtain ⟨g1,_,g3,g4,g5⟩:=i1.rem ha hb
   have tr:=qEl i1.ta i1.tb hb
   have hl:=qC4 i1.ta i1.tb hb
   have nl:(negC (remP a b)).length=(remP a b).length:=qBd _ _
   have d1:=qOg a b i1.ta i1.tb hb i5 i6 i1.ha i1.hb g3
   have d2:=ref05_negQ (remP a b) tr (by omega) (fun x hx=>(g1.okL x hx).mono (by omega))
   have nx:=i1.next chOk_small ha hb
   have d3:=qQ2 (negC (remP a b)) (by omega) (fun x hx=>(g1.neg.okL x hx).mono (by omega)) (qJ2 tr)
   have w3:(qAz (negC (remP a b))).length=(negC (remP a b)).length:=qBd _ _
   rw [show (divP a b).2=remP a b from rfl] at d1
   generalize (divP a b).1=z at *
   generalize qAz (negC (remP a b))=y at *
   generalize negC (remP a b)=yy at *
   generalize remP a b=r at *
   generalize ((-1:Int):Rat)=u at *
   clear hJ t1 t2 o1 o2 g1 g3 g4 g5
   repeat' (first|refine wG ?_|refine wC d1 ?_|refine wC f1 ?_|refine wC d2 ?_|refine wC d3 ?_|refine wS ?_ ?_<;>intro _|refine finG ?_)
   exact ⟨(acc++[a],b,y,k),⟨nx,by show y.length+1≤k;omega,by rw [←i3];simp only [List.append_assoc,List.singleton_append],by show (acc++[a]).length+k≤1000;rw [List.length_append,List.length_singleton];omega,i6,by show y.length≤100;omega⟩,by show k<k+1;omega,⟨rfl,rfl,qEn (by rw [List.length_append]),rfl⟩,rfl,trivial⟩
theorem absQ_pos{x:Rat}(h:x≠0):0<absQ x:=by
 unfold absQ
 split<;>grind
theorem tri(x:Rat):x<0∨x=0∨0<x:=by
 rcases qC1 x with ⟨h,_⟩|⟨h,_⟩|⟨h,_⟩
 ·exact .inr (.inr h)
 ·exact .inr (.inl h)
 ·exact .inl h
theorem absQ_mul{c x:Rat}(hc:0<c):absQ (c*x)=c*absQ x:=by
 unfold absQ
 rcases tri x with h|h|h
 ·have h1:c*x<0:=by
   have:=Rat.mul_pos hc (show 0< -x by grind)
   grind
  rw [if_pos h1,if_pos h];grind
 ·subst h;simp [Rat.mul_zero]
 ·have h1:=Rat.mul_pos hc h
  rw [if_neg (by grind),if_neg (by grind)]
theorem smallP_smul{c:Rat}(hc:0<c){p:List Rat}(hT:Tr p):qAz (smul c p)=qAz p:=by
 by_cases p0:p=[]
 ·subst p0;rfl
 ·have h0:=absQ_pos (qCo hT p0)
  unfold qAz
  rw [qNq,absQ_mul hc,qIr]
  congr 1
  have h1:absQ (lead p)*(absQ (lead p))⁻¹=1:=Rat.mul_inv_cancel _ (by grind)
  have h2:(c*absQ (lead p))*(c*absQ (lead p))⁻¹=1:=Rat.mul_inv_cancel _ (by
   have:=Rat.mul_pos hc h0
   grind)
  rw [Rat.div_def,Rat.div_def]
  generalize (c*absQ (lead p))⁻¹=u at *
  generalize (absQ (lead p))⁻¹=v at *
  generalize absQ (lead p)=y at *
  have e1:u*c=u*c*(y*v):=by rw [h1,Rat.mul_one]
  have e2:u*c*(y*v)=(c*y*u)*v:=by grind
  rw [Rat.one_mul,Rat.one_mul,e1,e2,h2,Rat.one_mul]
inductive PosM:List (List Rat)->List (List Rat)->Prop
 |nil:PosM [] []
 |cons {c:Rat} {a:List Rat} {l l':List (List Rat)}:0<c->PosM l l'->PosM (smul c a::l) (a::l')
theorem PosM.refl:∀l,PosM l l
 |[]=>.nil
 |a::l=>by
  have:=PosM.cons (c:=1) (a:=a) (by decide) (PosM.refl l)
  rwa [qDk] at this
theorem qT8:∀(n:Nat) {a b:List Rat} {α β:Rat},Tr a->Tr b->0<α->0<β->PosM (qBf qAz n (smul α a) (smul β b)) (qBf qAz n a b)
 |0,a,b,α,β,_,_,_,_=>.nil
 |n+1,a,b,α,β,ta,tb,ha,hb=>by
  rw [qBf,qBf]
  by_cases a0:a=[]
  ·subst a0;rw [if_pos (show smul α ([]:List Rat)=[] from rfl),if_pos rfl];exact .nil
  ·rw [if_neg a0,if_neg (fun h=>a0 (smul_eq_nil.1 h))]
   by_cases b0:b=[]
   ·subst b0;rw [if_pos (show smul β ([]:List Rat)=[] from rfl),if_pos rfl];exact .cons ha .nil
   ·rw [if_neg b0,if_neg (fun h=>b0 (smul_eq_nil.1 h))]
    refine .cons ha ?_
    have tr:=qEl ta tb b0
    rw [remP_smul ta tb b0 (by grind) (by grind),show negC (smul α (remP a b))=smul α (negC (remP a b)) from by unfold negC;rw [qIr,qIr,Rat.mul_comm],smallP_smul ha (qJ2 tr)]
    have:=qT8 n (a:=b) (b:=qAz (negC (remP a b))) (α:=β) (β:=1) tb (chOk_small.tr _ (qJ2 tr)) hb (by decide)
    rwa [qDk] at this
theorem sgQ_mul{c y:Rat}(hc:0<c):sgQ (c*y)=sgQ y:=by
 rcases tri y with h|h|h
 ·have h1:c*y<0:=by
   have:=Rat.mul_pos hc (show 0< -y by grind)
   grind
  rw [sg_neg h,sg_neg h1]
 ·subst h;rw [Rat.mul_zero]
 ·rw [sg_pos h,sg_pos (Rat.mul_pos hc h)]
theorem posM_sg{l l':List (List Rat)}(h:PosM l l')(x:Rat):(l.map fun f=>sgQ (qAb f x))=l'.map fun f=>sgQ (qAb f x):=by
 induction h with
 |nil=>rfl
 |cons hc _ ih=>rw [List.map_cons,List.map_cons,ih,qA4,sgQ_mul hc]
theorem vrs_tame{Q E:List Rat}(n:Nat)(tQ:Tr Q)(tE:Tr E)(x:Rat):vrsF (qBf qAz n (qAz Q) (qAz E)) x=vrsF (qBf qAz n Q E) x:=by
 unfold vrsF
 have key:PosM (qBf qAz n (qAz Q) (qAz E)) (qBf qAz n Q E):=by
  have pos:∀p:List Rat,Tr p->∃c,0<c∧qAz p=smul c p:=fun p t=>by
   by_cases p0:p=[]
   ·subst p0;exact ⟨1,by decide,rfl⟩
   ·have h0:=absQ_pos (qCo t p0)
    refine ⟨1/absQ (lead p),?_,rfl⟩
    rw [Rat.div_def,Rat.one_mul]
    exact Rat.inv_pos.2 h0
  obtain ⟨c,hc,e1⟩:=pos Q tQ
  obtain ⟨d,hd,e2⟩:=pos E tE
  rw [e1,e2]
  exact qT8 n tQ tE hc hd
 rw [posM_sg key]
theorem ref05_Simple(p:List Rat)(hT:Tr p)(hp:p.length≤99)(kp:∀x∈p,okQ 5000000 x)(hc:CtrOk p):Ret Tryz.prog 191 [qsD p] (·=qsD (ctrQ p)):=by
 have d1:=qJ3 (p.map rq) (by rw [List.length_map];omega) (qBq kp)
 rw [qAf] at d1
 have d1:=d1.args (qCw p (LeT.refl _))
 have hdl:(derP p).length≤99:=by
  have h1:=qAu (derC p)
  rw [qH8] at h1
  show (qAd (derC p)).length≤99
  omega
 obtain ⟨M,m1,m2,m3⟩:=hc.jg.fit
 have hM:M≤2000000:=by
  have:=Nat.mul_le_mul_left (M+1) (show 1≤3^(if (derP p).length<p.length then p.length else (derP p).length+1) from Nat.pow_pos (by decide))
  unfold Bud at m3
  omega
 have g1:=ref05_Gcd (p.map rq) ((derP p).map rq) (by rw [List.length_map];exact hp) (by rw [List.length_map];exact hdl) (qBq fun x hx=>(kp x hx).mono (by decide)) (qBq fun x hx=>(m2.okL x hx).mono (by omega)) (by rw [qAf,qAf,qAr hT,show qAd (derP p)=derP p from qIp _];exact hc.jg)
 rw [qAf,qAf,qAr hT,show qAd (derP p)=derP p from qIp _] at g1
 have g2:=g1.args (qCw p (qCw (derP p) (LeT.refl _)))
 obtain ⟨h,l,f1,f2,f3⟩:=hc.fit1
 have v1:=qOg p (gcdP p (derP p)) hT hc.tg hc.g0 (by omega) (by have:=hc.gl;omega) f1 f2 f3
 rw [show (divP p (gcdP p (derP p))).1=ctrQ p from rfl] at v1
 generalize ctrQ p=Q at *
 generalize (divP p (gcdP p (derP p))).2=Z at *
 generalize gcdP p (derP p)=G at *
 generalize derP p=E at *
 clear hc kp m1 m2 m3 g1 f1 f2 f3
 refine qAa tab Tryz.func191 rfl rfl (lblz rfl) (fun w0 F0=>?_)
 repeat' (first|refine wG ?_|refine wC d1 ?_|refine wC g2 ?_|refine wC v1 ?_|refine wS ?_ ?_<;>intro _|refine finG ?_)
 rfl
theorem qQ5(l:List R3)(x:R3)(hn:l.length≤1000)(ho:∀r∈l,RatOk r 5000000)(hx:RatOk x 4000000)(hk:∀k,k≤l.length->okQ 5000000 (qKa (l.map rv) (rv x) k)):Ret Tryz.prog 163 [rsD l,rD x] (·=qD (qAb (l.map rv) (rv x))):=by
 rw [show qAb (l.map rv) (rv x)=qKa (l.map rv) (rv x) l.length from by rw [←qJp,List.length_map]]
 obtain ⟨H,hH⟩:∃H,qKa (l.map rv) (rv x)=H:=⟨_,rfl⟩
 have h0:H 0=0:=by rw [←hH];exact qR3 _ _
 have hs:∀k,k<l.length->H (k+1)=H k*rv x+rv (l.getD ((l.length:Int)-1-k).toNat r0):=fun k hk=>by
  rw [←hH,qR4 (by simpa using hk),List.length_map,gRv (by omega),show ((l.length:Int)-1-k).toNat=l.length-1-k by omega]
 rw [hH] at hk ⊢
 clear hH
 refine qAa tab Tryz.func163 rfl rfl (lblz rfl) (fun w0 F0=>?_)
 repeat' (first|refine wG ?_|refine rg 5 7 ?_|refine wS ?_ ?_<;>intro _|refine finG ?_)
 refine qJy ((Conv.box 5 (cs:=[.bool false,.nils,.nils]) (rC r0) rfl leL).trans (Conv.box 4 (cs:=[.bool false,.nils,.nils]) (rC r0) rfl leL)) ?_
 refine qAi (fun (k:Nat)=>([(0,.d (rsD l)),(3,.ptr 3 0),(4,.ptr 4 0),(5,.ptr 5 0),(6,.d (.int .i64 ((l.length:Int)-1-k)))],[(3,.box 27 ((rC x).map V.d)),(4,.box 27 ((rC r0).map V.d)),(5,.box 27 ((rC (rq (H k))).map V.d))])) (fun k=>k≤l.length) (fun k=>l.length-k) 0 (by omega) ⟨rfl,rfl,rfl,rfl,iv (by omega),rfl⟩ ⟨rfl,rfl,(by rw [h0,qM2];rfl),trivial⟩ (fun k hi=>?_)
 by_cases h3:k<l.length
 ·have g1:RatOk (l.getD ((l.length:Int)-1-k).toNat r0) 5000000:=gMem ho (by omega)
  have g2:=hk k (by omega)
  have m1:=qM8 (rq (H k)) x (qAs (g2.mono (by decide))) (hx.up (by decide))
  have oq:okQ 10000000 (H k*rv x):=(g2.mul (qAx hx (by decide))).mono (by decide)
  rw [qAw] at m1
  have a1:=qNb (rq (H k*rv x)) (l.getD ((l.length:Int)-1-k).toNat r0) (qAs (oq.mono (by decide))) (g1.up (by decide))
  rw [qAw,←hs k h3] at a1
  clear ho hk hs
  repeat' (first|refine wG ?_|refine wC m1 ?_|refine wC a1 ?_|refine rg 5 7 ?_|refine wS ?_ ?_<;>intro _|refine finG ?_)
  exact ⟨k+1,by omega,by omega,⟨rfl,rfl,rfl,rfl,iv (by omega),rfl⟩,rfl,rfl,rfl,trivial⟩
 ·have e:k=l.length:=by omega
  subst e
  clear ho hk hs
  repeat' (first|refine wG ?_|refine rg 5 7 ?_|refine wS ?_ ?_<;>intro _|refine finG ?_)
  rfl
theorem ref05_EvalF(f:List Rat)(x:R3){M:Nat}(hf:Fit f.length f M)(hl:f.length≤13)(hx:RatOk x 200000):Ret Tryz.prog 163 [qsD f,rD x] (·=qD (qAb f (rv x)))∧okQ 10000000 (qAb f (rv x)):=by
 obtain ⟨h1,h2⟩:=hf
 have m1:=HtP.gt h1
 have hk:f.length*M≤2000000:=by
  have a1:=Nat.mul_le_mul (show M≤M+1 by omega) (Nat.le_trans (Nat.le_succ f.length) (qJl f.length))
  rw [Nat.mul_comm] at a1
  unfold Bud at h2
  omega
 have hM:M≤2000000:=by
  have:=Nat.mul_le_mul_left (M+1) (show 1≤3^f.length from Nat.pow_pos (by decide))
  unfold Bud at h2
  omega
 have ho:∀k,k≤f.length->okQ 5000000 (qKa f (rv x) k):=fun k hk2=>by
  refine (qMl h1.okL (qAx hx (by decide)) m1 k hk2).mono ?_
  have a1:=Nat.mul_le_mul_right M hk2
  have a2:=Nat.mul_le_mul_right 200000 hk2
  rw [Nat.mul_add]
  omega
 have he:=qQ5 (f.map rq) x (by rw [List.length_map];omega) (qBq fun y hy=>(h1.okL y hy).mono (by omega)) (hx.up (by decide)) (by rw [qAf,List.length_map];exact ho)
 rw [qAf] at he
 refine ⟨he.args (qCw f (LeT.refl _)),?_⟩
 have:=ho f.length (Nat.le_refl _)
 rw [qJp] at this
 exact this.mono (by decide)
theorem ref05_Count(P:List R3)(lo hi:R3)(hP:P.length≤99)(kP:∀r∈P,RatOk r 5000000)(hc:qAd (P.map rv)≠[]->CtrOk (qAd (P.map rv))∧∃M,JS (qAz (ctrQ (qAd (P.map rv)))) (qAz (derP (ctrQ (qAd (P.map rv))))) M)(kl:RatOk lo 200000)(kh:RatOk hi 200000):Ret Tryz.prog 162 [rsD P,rD lo,rD hi] (·= .int .i64 (if qAd (P.map rv)=[] then-1 else cntF (ctr (qAd (P.map rv))) (rv lo) (rv hi))):=by
 have t1:=qE8 P (by omega) (fun r hr=>(kP r hr).up (by decide))
 have l1:=qAu (P.map rv)
 rw [List.length_map] at l1
 have op:∀x∈qAd (P.map rv),okQ 5000000 x:=fun x hx=>by
  obtain ⟨r,hr,rfl⟩:=List.mem_map.1 (qLc hx)
  exact qAx (kP r hr) (by decide)
 have tp:=qAl (P.map rv)
 generalize qAd (P.map rv)=p at *
 by_cases h0:p=[]
 ·rw [if_pos h0]
  have hl:p.length=0:=by rw [h0];rfl
  clear kP hc op
  refine qAa tab Tryz.func162 rfl rfl (lblz rfl) (fun w0 F0=>?_)
  repeat' (first|refine wG ?_|refine wC t1 ?_|refine rg 7 5 ?_|refine wS ?_ ?_<;>intro _|refine finG ?_)
  rfl
 ·rw [if_neg h0]
  have hl:=qA2 h0
  obtain ⟨hk,M,js⟩:=hc h0
  have s1:=ref05_Simple p tp (by omega) op hk
  obtain ⟨M2,f2⟩:=hk.fit2
  have ql:=hk.ql
  have tQ:=f2.ta
  have tE:=f2.tb
  have hM2:M2≤2000000:=by
   have b:=f2.bud
   have:=Nat.mul_le_mul_left (M2+1) (show 1≤3^(ctrQ p).length from Nat.pow_pos (by decide))
   unfold Bud at b
   omega
  have tm:=ref05_tame ((ctrQ p).map rq) (by rw [List.length_map];omega) (qBq fun x hx=>(f2.ha.okL x hx).mono (by omega)) M (by rw [qAf,qAr tQ];exact fun x hx=>(f2.ha.okL x hx).mono (by omega)) (by rw [qAf];exact fun x hx=>(f2.hb.okL x hx).mono (by omega)) (by rw [qAf,qAr tQ];exact js)
  rw [qAf,qAr tQ,List.length_map] at tm
  have tm:=tm.args (qCw _ (LeT.refl _))
  have hfit:=js.chain chOk_small ((ctrQ p).length+1)
  have cln:=qHr qAz ((ctrQ p).length+1) (qAz (ctrQ p)) (qAz (derP (ctrQ p)))
  have v1:=vrs_tame ((ctrQ p).length+1) tQ tE (rv lo)
  have v2:=vrs_tame ((ctrQ p).length+1) tQ tE (rv hi)
  have ec:cntF (ctr p) (rv lo) (rv hi)=cntF (qBf qAz ((ctrQ p).length+1) (qAz (ctrQ p)) (qAz (derP (ctrQ p)))) (rv lo) (rv hi):=by
   unfold cntF ctr
   rw [v1,v2]
  rw [ec]
  generalize qBf qAz ((ctrQ p).length+1) (qAz (ctrQ p)) (qAz (derP (ctrQ p)))=F at *
  have gF:∀i,i<F.length->F.getD i []∈F:=fun i hi=>by
   rw [List.getD_eq_getElem?_getD,List.getElem?_eq_getElem hi];exact List.getElem_mem hi
  have ch:∀x,RatOk x 200000->Ret Tryz.prog 192 [qssD F,rD x] (·= .int .i64 (vrsF F (rv x))):=fun x hx=>ref05_changes F x (by omega) fun i hi=>by
   obtain ⟨g1,M',g2⟩:=hfit _ (gF i hi)
   refine ref05_EvalF _ x g2 ?_ hx
   have b:=g2.2
   have b2:=qJl (F.getD i []).length
   by_cases g0:(F.getD i []).length≤13
   ·omega
   ·exfalso
    have b3:=Nat.pow_le_pow_right (show 0<3 by decide) (show 14≤(F.getD i []).length by omega)
    have b4:=Nat.mul_le_mul_right (3^(F.getD i []).length) (show 1≤M'+1 by omega)
    have b5:(3:Nat)^14=4782969:=by decide
    unfold Bud at b
    omega
  have c1:=ch lo kl
  have c2:=ch hi kh
  have ls:=qEh lo hi (kl.up (by decide)) (kh.up (by decide))
  have b1:0≤vrsF F (rv lo)∧vrsF F (rv lo)≤1000:=by
   have:=qK6 (F.map fun f=>sgQ (qAb f (rv lo))) 0
   rw [List.length_map] at this
   unfold vrsF;omega
  have b2:0≤vrsF F (rv hi)∧vrsF F (rv hi)≤1000:=by
   have:=qK6 (F.map fun f=>sgQ (qAb f (rv hi))) 0
   rw [List.length_map] at this
   unfold vrsF;omega
  unfold cntF
  generalize vrsF F (rv lo)=n1 at *
  generalize vrsF F (rv hi)=n2 at *
  generalize ctrQ p=Q at *
  clear ch gF hfit hc hk f2 js kP op ec v1 v2
  by_cases h:rv lo<rv hi
  ·rw [if_pos h]
   rw [decide_eq_true h] at ls
   refine qAa tab Tryz.func162 rfl rfl (lblz rfl) (fun w0 F0=>?_)
   repeat' (first|refine wG ?_|refine wC t1 ?_|refine wC s1 ?_|refine wC tm ?_|refine wC ls ?_|refine wC c1 ?_|refine wC c2 ?_|refine rg 7 5 ?_|refine wS ?_ ?_<;>intro _|refine finG ?_)
   rfl
  ·rw [if_neg h]
   rw [decide_eq_false h] at ls
   refine qAa tab Tryz.func162 rfl rfl (lblz rfl) (fun w0 F0=>?_)
   repeat' (first|refine wG ?_|refine wC t1 ?_|refine wC ls ?_|refine rg 7 5 ?_|refine wS ?_ ?_<;>intro _|refine finG ?_)
   rfl
theorem ln_sm{n:Nat}(h:n<4294967296):ln n<2:=by
 unfold ln
 rcases Nat.eq_zero_or_pos n with e|e
 ·subst e;rw [qAk];decide
 ·rw [qCp (by show n<4294967296;omega) (by omega)];simp
theorem qUo{h:Nat}{p:List Rat}(H:HtP h p)(hl:p.length≤1000):HtP (h+1) (derP p):=by
 refine HtP.trim ?_
 obtain ⟨c,P,c0,hc,hp⟩:=H
 refine ⟨c,fun i=>if i<p.length then ((i+1:Nat):Int)*P (i+1) else 0,c0,by omega,fun i=>?_⟩
 dsimp only
 rw [qGo]
 split
 ·refine ⟨?_,?_⟩
  ·have:=qDo (a:=((i+1:Nat):Int)) (h:=2) (by rw [Int.natAbs_natCast];exact ln_sm (by omega)) (hp (i+1)).1
   omega
  ·rw [(hp (i+1)).2,Rat.divInt_eq_div,Rat.divInt_eq_div,Rat.intCast_mul,Rat.div_def,Rat.div_def,Rat.mul_assoc,Rat.intCast_natCast]
 ·refine ⟨by show ln 0<h+1;rw [qF7];omega,?_⟩
  rw [qCr (by omega),Rat.mul_zero]
  exact (Rat.zero_divInt c).symm
theorem qQg{h:Nat}{p:List Rat}(t:Tr p)(H:HtP h p):HtP (h+1) (qAz p):=chOk_small.ht p h t H
theorem ctrOk_of{p:List Rat}(tp:Tr p)(p0:p≠[]){h B:Nat}(hp:HtP h p)(h1:1<h)(lp:p.length≤90)(hB:6≤B)(h3:(h+2)*3^p.length≤B)(hB2:B≤Bud)(hb:∀l g,1≤g->g≤p.length->(1<g->l*3^g≤B)->(g=1->l=3)->h+(p.length+1-g)*l+l≤2000000∧(h+(p.length+1-g)*l+l+3)*3^(p.length+1-g)≤Bud):CtrOk p∧∃M,JS (qAz (ctrQ p)) (qAz (derP (ctrQ p))) M:=by
 have td:=qAl (derC p)
 have hd:=qUo hp (by omega)
 have ld:(derP p).length<p.length:=by
  have:=qK2 (p:=p) (by rw [qAr tp];exact p0)
  rwa [qAr tp] at this
 have e1:max p.length ((derP p).length+1)=p.length:=by omega
 have hj:JG p (derP p):=JG.of tp td (hp.mono (Nat.le_succ h)) hd (by rw [e1];exact Nat.le_trans h3 hB2)
 obtain ⟨g1,g2⟩:=qEo tp td
 obtain ⟨g3,g4⟩:=g2 (.inl p0)
 rw [show qAd (derC p)=derP p from rfl] at g1 g3 g4
 obtain ⟨M,k1,k2⟩:=gcdB hB _ tp td (hp.mono (Nat.le_succ h)) hd (by rw [show qAd (derC p)=derP p from rfl,if_pos ld];exact h3) (Nat.le_refl _)
 rw [show qAd (derC p)=derP p from rfl] at k1 k2
 have gl:=qA2 g3
 have glp:(gcdP p (derP p)).length≤p.length:=by
  have:=gcd_len _ tp td (Nat.le_refl _)
  rw [show qAd (derC p)=derP p from rfl] at this
  omega
 have key:∃l,HtP l (gcdP p (derP p))∧h+(p.length+1-(gcdP p (derP p)).length)*l+l≤2000000∧(h+(p.length+1-(gcdP p (derP p)).length)*l+l+3)*3^(p.length+1-(gcdP p (derP p)).length)≤Bud:=by
  by_cases c:(gcdP p (derP p)).length=1
  ·obtain ⟨a1,a2⟩:=hb 3 (gcdP p (derP p)).length gl glp (by omega) (fun _=>rfl)
   exact ⟨3,ht_one c g4,a1,a2⟩
  ·obtain ⟨a1,a2⟩:=hb (M+1) (gcdP p (derP p)).length gl glp (fun _=>k2) (fun h=>absurd h c)
   exact ⟨M+1,k1,a1,a2⟩
 obtain ⟨l,l1,l2,l3⟩:=key
 have hQ:HtP (h+(p.length+1-(gcdP p (derP p)).length)*l+l) (ctrQ p):=divP_ht tp g1 g3 hp l1
 have lQ:(ctrQ p).length≤p.length+1-(gcdP p (derP p)).length:=(divP_q tp g1 g3 hp l1 h1).2
 have tQ:Tr (ctrQ p):=(qBy tp g1 g3).1
 obtain ⟨H,hH⟩:∃H,h+(p.length+1-(gcdP p (derP p)).length)*l+l=H:=⟨_,rfl⟩
 rw [hH] at hQ l3
 have tE:=qAl (derC (ctrQ p))
 have hE:=qUo hQ (by omega)
 have lt:ctrQ p≠[]->(derP (ctrQ p)).length<(ctrQ p).length:=fun q0=>by
  have:=qK2 (p:=ctrQ p) (by rw [qAr tQ];exact q0)
  rwa [qAr tQ] at this
 have pw:3^(ctrQ p).length≤3^(p.length+1-(gcdP p (derP p)).length):=Nat.pow_le_pow_right (by decide) lQ
 have b3:(H+3)*3^(ctrQ p).length≤Bud:=Nat.le_trans (Nat.mul_le_mul_left _ pw) l3
 refine ⟨⟨g3,g1,hj,by omega,⟨h,l,hp,l1,l2⟩,by omega,H+1,tQ,tE,lt,hQ.mono (by omega),hE,?_⟩,H+2,chOk_small.tr _ tQ,chOk_small.tr _ tE,fun h0=>?_,(qQg tQ hQ).mono (by omega),qQg tE hE,?_⟩
 ·exact Nat.le_trans (Nat.mul_le_mul_right _ (by omega)) b3
 ·rw [chOk_small.len,chOk_small.len]
  exact lt fun e=>h0 (by rw [e];rfl)
 ·rw [chOk_small.len];exact b3
theorem qDx:ChS qAz:=⟨chOk_small.tr,chOk_small.len,fun p tp=>by
 by_cases h0:p=[]
 ·subst h0
  exact ⟨1,by decide,fun x=>by rw [Rat.one_mul];rfl⟩
 ·have hl:=qCo tp h0
  have hp:0<absQ (lead p):=by
   unfold absQ
   split
   ·grind
   ·grind
  refine ⟨absQ (lead p),hp,fun x=>?_⟩
  unfold qAz
  rw [qA4,←Rat.mul_assoc,Rat.mul_comm (absQ (lead p)),qAm (Rat.ne_of_gt hp),Rat.one_mul]⟩
theorem qN9(F:List (List Rat))(x:Rat):vrsF F x=vrs (F.map qAb) x:=by
 unfold vrsF vrs sgs
 rw [List.map_map]
 rfl
theorem ctrOk_mk{p:List Rat}(tp:Tr p)(p0:p≠[]){h l H:Nat}(hp:HtP h p)(h1:1<h)(lp:p.length≤90)(h3:(h+2)*3^p.length≤Bud)(hg:HtP l (gcdP p (derP p)))(hQ:HtP H (ctrQ p))(hb:h+(p.length+1-(gcdP p (derP p)).length)*l+l≤2000000)(hb2:(H+3)*3^(ctrQ p).length≤Bud):CtrOk p∧∃M,JS (qAz (ctrQ p)) (qAz (derP (ctrQ p))) M:=by
 have td:=qAl (derC p)
 have hd:=qUo hp (by omega)
 have ld:(derP p).length<p.length:=by
  have:=qK2 (p:=p) (by rw [qAr tp];exact p0)
  rwa [qAr tp] at this
 have e1:max p.length ((derP p).length+1)=p.length:=by omega
 have hj:JG p (derP p):=JG.of tp td (hp.mono (Nat.le_succ h)) hd (by rw [e1];exact h3)
 obtain ⟨g1,g2⟩:=qEo tp td
 obtain ⟨g3,g4⟩:=g2 (.inl p0)
 rw [show qAd (derC p)=derP p from rfl] at g1 g3 g4
 have glp:(gcdP p (derP p)).length≤p.length:=by
  have:=gcd_len _ tp td (Nat.le_refl _)
  rw [show qAd (derC p)=derP p from rfl] at this
  omega
 have lQ:(ctrQ p).length≤p.length+1-(gcdP p (derP p)).length:=(divP_q tp g1 g3 hp hg h1).2
 have tQ:Tr (ctrQ p):=(qBy tp g1 g3).1
 have tE:=qAl (derC (ctrQ p))
 have hE:=qUo hQ (by omega)
 have lt:ctrQ p≠[]->(derP (ctrQ p)).length<(ctrQ p).length:=fun q0=>by
  have:=qK2 (p:=ctrQ p) (by rw [qAr tQ];exact q0)
  rwa [qAr tQ] at this
 refine ⟨⟨g3,g1,hj,by omega,⟨h,l,hp,hg,hb⟩,by omega,H+1,tQ,tE,lt,hQ.mono (by omega),hE,?_⟩,H+2,chOk_small.tr _ tQ,chOk_small.tr _ tE,fun h0=>?_,(qQg tQ hQ).mono (by omega),qQg tE hE,?_⟩
 ·exact Nat.le_trans (Nat.mul_le_mul_right _ (by omega)) hb2
 ·rw [chOk_small.len,chOk_small.len]
  exact lt fun e=>h0 (by rw [e];rfl)
 ·rw [chOk_small.len];exact hb2
theorem ref05_MulQ(p q:List Rat)(K:Nat)(hp:p.length≤100)(hq:q.length≤100)(kp:∀x∈p,okQ K x)(kq:∀x∈q,okQ K x)(hK:1<K)(hK2:K*(2*q.length+3)≤4000000):Ret Tryz.prog 164 [qsD p,qsD q] (·=qsD (mulT p q)):=by
 have h:=ref05_Mul (p.map rq) (q.map rq) K (by rw [List.length_map];exact hp) (by rw [List.length_map];exact hq) (qBq kp) (qBq kq) hK (by rw [List.length_map];exact hK2)
 rw [qAf,qAf] at h
 exact h.args (qCw p (qCw q (LeT.refl _)))
end Go.Proofs.YtejigedigmagdaaGreat
