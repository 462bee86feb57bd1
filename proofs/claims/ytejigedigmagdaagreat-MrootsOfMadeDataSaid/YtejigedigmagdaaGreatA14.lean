/-
 Contracts of functions of the program, and the layer that they are walked with: Z34 Z35. Conditions: as each says.
-/
import Derived.Test.YtejigedigmagdaaGreatA13
set_option linter.unusedVariables false
set_option linter.unusedSimpArgs false
set_option linter.unnecessarySimpa false
set_option maxHeartbeats 8000000
namespace Go.Proofs.YtejigedigmagdaaGreat
open Go.Vw
attribute [local irreducible] awp awpL awpR qKb
theorem ref22_All{N P Q:Int}{x:List Rat}{r:Rat}(h:TkIn N P Q x r):Ret Tryz.prog 62 [qsD x,qD r] (·= .int .i64 (winV x r ((qAc x r).getD 0 0,(qAc x r).getD ((qAc x r).length-1) 0) ((qAc x r).length-1))):=by
 have hl:=h.len
 have ox:=h.okx
 have or:=h.okr
 have bk:=qKh x r (by omega) (fun v hv=>(ox v hv).mono (by decide)) (or.mono (by decide))
 have el:=qI7 x r
 have ep:=qDw (k:=r) h.ne
 have oe:∀j,okQ 2 ((qAc x r).getD j 0):=fun j=>qCv (fun v hv=>(h.ends v hv).1) (by decide) j
 have wi:=qPg h ((qAc x r).getD 0 0,(qAc x r).getD ((qAc x r).length-1) 0) (qIi (Nat.zero_le _) (by omega)) ⟨(oe _).mono (by decide),(oe _).mono (by decide)⟩
 generalize winV x r ((qAc x r).getD 0 0,(qAc x r).getD ((qAc x r).length-1) 0) ((qAc x r).length-1)=n at *
 clear h ox or oe
 generalize qAc x r=q at *
 have en:((q.length:Int)-1).toNat=q.length-1:=by omega
 rw [←en] at wi
 refine qAa tab Tryz.func62 rfl rfl (lblz rfl) (fun w0 F0=>?_)
 repeat' (first|refine wG ?_|refine wC bk ?_|refine wC wi ?_|refine rg 2 12 ?_|refine wS ?_ ?_<;>intro _|refine finG ?_)
 rfl
theorem ref22_Flat{N P Q:Int}{x:List Rat}{r:Rat}(h:TkIn N P Q x r):Ret Tryz.prog 61 [qsD x,qD r] (·=isD (qCi x r)):=by
 have hl:=h.len
 have ox:=h.okx
 have or:=h.okr
 have rp:=h.rp
 have bk:=qKh x r (by omega) (fun v hv=>(ox v hv).mono (by decide)) (or.mono (by decide))
 have el:=qI7 x r
 have ep:=qDw (k:=r) h.ne
 have oe:∀j,okQ 2 ((qAc x r).getD j 0):=fun j=>qCv (fun v hv=>(h.ends v hv).1) (by decide) j
 have hab:∀j,j+1<(qAc x r).length->(qAc x r).getD j 0≤(qAc x r).getD (j+1) 0:=fun j hj=>Rat.le_of_lt (qCz (Nat.lt_succ_self j) hj)
 have om:∀j,okQ 1000 (mid2 ((qAc x r).getD j 0,(qAc x r).getD (j+1) 0)):=fun j=>by
  unfold mid2
  exact (((oe j).add (oe (j+1))).div (qGt (q:=2) (by decide+kernel)) (by decide+kernel)).mono (by decide)
 have md:=fun j (hj:j+1<(qAc x r).length)=>qTw ((qAc x r).getD j 0,(qAc x r).getD (j+1) 0) (hab j hj) ⟨(oe j).mono (by decide),(oe (j+1)).mono (by decide)⟩
 have a1:=fun j=>qHz x r (mid2 ((qAc x r).getD j 0,(qAc x r).getD (j+1) 0)) (by omega) (fun v hv=>(ox v hv).mono (by decide)) (or.mono (by decide)) (om j)
 have a2:=fun j=>qHz x r ((qAc x r).getD j 0) (by omega) (fun v hv=>(ox v hv).mono (by decide)) (or.mono (by decide)) ((oe j).mono (by decide))
 have l2:1<(qAc x r).length:=by
  obtain ⟨v,hv⟩:=List.exists_mem_of_ne_nil x h.ne
  have B:=qBx x r
  obtain ⟨i,hi,e1⟩:=List.getElem_of_mem (B.lo v hv)
  obtain ⟨j,hj,e2⟩:=List.getElem_of_mem (B.hi v hv)
  refine Nat.lt_of_not_le fun k=>?_
  have b1:i=0:=by omega
  have b2:j=0:=by omega
  subst b1;subst b2
  grind
 obtain ⟨f1,f2⟩:=flt_one rp l2
 have fs:=fun j (hf:FlJ x r j) hj=>flt_step rp h.ne hf hj
 have fa:=flt_all (x:=x) rp
 obtain ⟨L,hL⟩:∃L:Nat->List I2,∀j,flt (qCi x r) ((qAc x r).getD j 0)=L j:=⟨fun j=>flt (qCi x r) ((qAc x r).getD j 0),fun _=>rfl⟩
 have lL:∀j,(L j).length≤100:=fun j=>by
  rw [←hL]
  unfold flt
  have a:=List.length_filter_le (fun z:I2=>decide (z.1<(qAc x r).getD j 0)) (qCi x r)
  have b:(qCi x r).length≤x.length:=by
   unfold qCi
   have:=qNw r (cmpL (srt x))
   have:=qIa (srt x)
   have:=qE2 x
   omega
  omega
 have ft:=fun j (hf:FlJ x r j)=>hf.lt
 have f1':=fun j (hf:FlJ x r j)=>hf.j1
 rw [hL] at f2 fa
 simp only [hL] at fs
 clear h om hab ox or oe hL
 generalize FlJ x r=Fl at *
 have nz:∀l:List Rat,(l≠[]∧0<l.length)∨(l=[]∧l.length=0):=fun l=>by
  by_cases c:l=[]
  ·exact .inr ⟨c,by rw [c];rfl⟩
  ·exact .inl ⟨c,List.length_pos_iff.2 c⟩
 have n1:=fun j=>nz (actF x r (mid2 ((qAc x r).getD j 0,(qAc x r).getD (j+1) 0)))
 have n2:=fun j=>nz (actF x r ((qAc x r).getD j 0))
 clear nz
 generalize hA1:(fun j=>actF x r (mid2 ((qAc x r).getD j 0,(qAc x r).getD (j+1) 0)))=A1
 have hA1:∀j,actF x r (mid2 ((qAc x r).getD j 0,(qAc x r).getD (j+1) 0))=A1 j:=fun j=>by rw [←hA1]
 obtain ⟨A2,hA2⟩:∃A2:Nat->List Rat,∀j,actF x r ((qAc x r).getD j 0)=A2 j:=⟨fun j=>actF x r ((qAc x r).getD j 0),fun _=>rfl⟩
 simp only [hA1] at a1 fs n1
 simp only [hA2] at a2 fs n2
 clear hA1 hA2
 generalize hF:qCi x r=F at *
 clear hF
 generalize qAc x r=q at *
 refine qAa tab Tryz.func61 rfl rfl (lblz rfl) (fun w0 F0=>?_)
 repeat' (first|refine wG ?_|refine wC bk ?_|refine rg 6 6 ?_|refine rgK 7 12 [8] ?_|refine rg 9 12 ?_|refine rg 11 11 ?_|refine wS ?_ ?_<;>intro _|refine finG ?_)
 refine qB3 6 500 32 6 qiC (0,0) rfl ?_
 refine qAi (fun (j:Nat)=>([(0,.d (qsD x)),(3,.ptr 3 0),(5,.d (qsD q)),(6,iO 500 (L j).length),(7,.d (.int .i64 j))],[(3,.box 27 ((rC (rq r)).map V.d)),(500,iB (L j))])) (fun j=>Fl j) (fun j=>q.length-j) 1 f1 ⟨rfl,rfl,rfl,qEn (by rw [f2];rfl),rfl,rfl⟩ ⟨rfl,qBr (by rw [f2]),trivial⟩ (fun j hj=>?_)
 have hjl:=ft j hj
 have hj1:=f1' j hj
 have hel:=lL j
 by_cases h3:j+1<q.length
 ·have md:=md j h3
  have a1:=a1 j
  have a2:=a2 j
  obtain ⟨s1,s2⟩:=fs j hj h3
  have n1:=n1 j
  have n2:=n2 j
  clear fs fa
  rcases n2 with ⟨c,k⟩|⟨c,k⟩
  ·obtain ⟨g1,g2⟩:=s1 c
   clear s1 s2 n1 c
   generalize A2 j=l2 at *
   repeat' (first|refine wG ?_|refine wC a2 ?_|refine rg 6 6 ?_|refine rgK 7 12 [8] ?_|refine rg 9 12 ?_|refine rg 11 11 ?_|refine wS ?_ ?_<;>intro _|refine finG ?_)
   exact ⟨j+1,g1,by omega,⟨rfl,rfl,rfl,qEn (by rw [g2]),iv (by omega),rfl⟩,rfl,qBr (by rw [g2]),trivial⟩
  ·obtain ⟨s3,s4⟩:=s2 c
   by_cases c2:j+2<q.length∧A1 j=[]
   ·obtain ⟨g1,g2⟩:=s3 c2
    have k1:(A1 j).length=0:=by rw [c2.2];rfl
    have c3:=c2.1
    clear s1 s2 s3 s4 n1 c c2
    generalize A2 j=l2 at *
    generalize A1 j=l1 at *
    generalize mid2 (q.getD j 0,q.getD (j+1) 0)=m at *
    repeat' (first|(show awpO _ _ _ _ _ _ _ _ _ _;first|refine Go.Vw.stepOPB true Go.Vw.tt Go.Vw.ff (by kernel_rfl) Go.Vw.stt rfl rfl rfl Go.Vw.sc ?_|refine Go.Vw.stepOApp (en:=qiC) (z:=(0,0)) (l:=L j) (l2:=[(q.getD j 0,q.getD (j+1) 0)]) Go.Vw.tt Go.Vw.tt rfl rfl rfl rfl rfl rfl rfl rfl rfl rfl rfl rfl rfl rfl (Go.Vw.srcB_lit rfl (Go.Vw.LeR.cons rfl Go.Vw.leL Go.Vw.LeR.nil)) Go.Vw.sc ?_)|refine wG ?_|refine wC md ?_|refine wC a1 ?_|refine wC a2 ?_|refine awp_regO 9 13 12 500 ?_ mixed (by kernel_rfl)|(show awpO _ _ _ _ _ _ _ _ _ _;first|refine goO ?_|refine clO 114 (hr:=md) ff (by kernel_rfl) rfl rfl rfl rfl rfl rfl leT ?_|refine clO 113 (hr:=a1) ff (by kernel_rfl) rfl rfl rfl rfl rfl rfl leT ?_|refine clO 113 (hr:=a2) ff (by kernel_rfl) rfl rfl rfl rfl rfl rfl leT ?_)|refine rg 6 6 ?_|refine rgK 7 12 [8] ?_|refine rg 9 12 ?_|refine rg 11 11 ?_|refine wS ?_ ?_<;>intro _|refine finG ?_)
    exact ⟨j+2,g1,by omega,⟨rfl,rfl,rfl,qEn (by rw [g2]),iv (by omega),rfl⟩,rfl,qBr (by rw [g2]),trivial⟩
   ·obtain ⟨g1,g2⟩:=s4 c2
    have k1:q.length≤j+2∨0<(A1 j).length:=by
     rcases n1 with ⟨u,v⟩|⟨u,v⟩
     ·exact .inr v
     ·exact .inl (Nat.le_of_not_lt fun e=>c2 ⟨e,u⟩)
    clear s1 s2 s3 s4 n1 c c2
    generalize A2 j=l2 at *
    generalize A1 j=l1 at *
    generalize mid2 (q.getD j 0,q.getD (j+1) 0)=m at *
    by_cases c4:j+2<q.length
    ·have k2:0<l1.length:=by omega
     clear k1
     repeat' (first|(show awpO _ _ _ _ _ _ _ _ _ _;first|refine Go.Vw.stepOPB true Go.Vw.tt Go.Vw.ff (by kernel_rfl) Go.Vw.stt rfl rfl rfl Go.Vw.sc ?_|refine Go.Vw.stepOApp (en:=qiC) (z:=(0,0)) (l:=L j) (l2:=[(q.getD j 0,q.getD j 0)]) Go.Vw.tt Go.Vw.tt rfl rfl rfl rfl rfl rfl rfl rfl rfl rfl rfl rfl rfl rfl (Go.Vw.srcB_lit rfl (Go.Vw.LeR.cons rfl Go.Vw.leL Go.Vw.LeR.nil)) Go.Vw.sc ?_)|refine wG ?_|refine wC md ?_|refine wC a1 ?_|refine wC a2 ?_|refine awp_regO 11 12 11 500 ?_ mixed (by kernel_rfl)|(show awpO _ _ _ _ _ _ _ _ _ _;first|refine goO ?_|refine clO 114 (hr:=md) ff (by kernel_rfl) rfl rfl rfl rfl rfl rfl leT ?_|refine clO 113 (hr:=a1) ff (by kernel_rfl) rfl rfl rfl rfl rfl rfl leT ?_|refine clO 113 (hr:=a2) ff (by kernel_rfl) rfl rfl rfl rfl rfl rfl leT ?_)|refine rg 6 6 ?_|refine rgK 7 12 [8] ?_|refine rg 9 12 ?_|refine rg 11 11 ?_|refine wS ?_ ?_<;>intro _|refine finG ?_)
     exact ⟨j+1,g1,by omega,⟨rfl,rfl,rfl,qEn (by rw [g2]),iv (by omega),rfl⟩,rfl,qBr (by rw [g2]),trivial⟩
    ·clear k1
     repeat' (first|(show awpO _ _ _ _ _ _ _ _ _ _;first|refine Go.Vw.stepOPB true Go.Vw.tt Go.Vw.ff (by kernel_rfl) Go.Vw.stt rfl rfl rfl Go.Vw.sc ?_|refine Go.Vw.stepOApp (en:=qiC) (z:=(0,0)) (l:=L j) (l2:=[(q.getD j 0,q.getD j 0)]) Go.Vw.tt Go.Vw.tt rfl rfl rfl rfl rfl rfl rfl rfl rfl rfl rfl rfl rfl rfl (Go.Vw.srcB_lit rfl (Go.Vw.LeR.cons rfl Go.Vw.leL Go.Vw.LeR.nil)) Go.Vw.sc ?_)|refine wG ?_|refine wC md ?_|refine wC a1 ?_|refine wC a2 ?_|refine awp_regO 11 12 11 500 ?_ mixed (by kernel_rfl)|(show awpO _ _ _ _ _ _ _ _ _ _;first|refine goO ?_|refine clO 114 (hr:=md) ff (by kernel_rfl) rfl rfl rfl rfl rfl rfl leT ?_|refine clO 113 (hr:=a1) ff (by kernel_rfl) rfl rfl rfl rfl rfl rfl leT ?_|refine clO 113 (hr:=a2) ff (by kernel_rfl) rfl rfl rfl rfl rfl rfl leT ?_)|refine rg 6 6 ?_|refine rgK 7 12 [8] ?_|refine rg 9 12 ?_|refine rg 11 11 ?_|refine wS ?_ ?_<;>intro _|refine finG ?_)
     exact ⟨j+1,g1,by omega,⟨rfl,rfl,rfl,qEn (by rw [g2]),iv (by omega),rfl⟩,rfl,qBr (by rw [g2]),trivial⟩
 ·have e:j=q.length-1:=by omega
  subst e
  clear fs md a1 a2 n1 n2
  rw [fa]
  rw [fa] at hel
  repeat' (first|refine wG ?_|refine rg 6 6 ?_|refine rgK 7 12 [8] ?_|refine rg 9 12 ?_|refine rg 11 11 ?_|refine wS ?_ ?_<;>intro _|refine finG ?_)
  rfl
theorem ref04_WidthI(X:I2)(hX:X.1≤X.2)(oX:okI 150000 X):Ret Tryz.prog 64 [iQ X] (·=qD (X.2-X.1)):=by
 have h:=ref04_Width (rq X.1) (rq X.2) ((qAs oX.1).up (by decide)) ((qAs oX.2).up (by decide))
 rw [qAw,qAw,qGx hX] at h
 exact h
theorem pts_w{N P Q:Int}{x:List Rat}{r:Rat}{bits:Nat}(h:TkIn N P Q x r){Rs:Nat->List I2}(hR:∀j,j+1<(qAc x r).length->qAj x r j≠[]->PcR x r bits j (Rs j)):∀y∈qDv x r Rs ((qAc x r).length-1),y.2-y.1≤hw 1 bits:=fun y hy=>by
 obtain ⟨j,j1,j2⟩:=qRc hy
 obtain ⟨hp,h2⟩:=qM3 j2
 rcases h2 with ⟨i,i1,rfl⟩|⟨k1,k2,k3,rfl⟩
 ·obtain ⟨l,l1,l2,l3⟩:=(hR j (by omega) hp).in_
  exact (l3 i i1).width
 ·show (qAc x r).getD (j+1) 0-(qAc x r).getD (j+1) 0≤_
  have:=qL2 bits
  grind
theorem law22_right{N P Q:Int}{x:List Rat}{r:Rat}(h:TkIn N P Q x r){bits:Nat}(hb:bits≤8){Rs:Nat->List I2}(hR:∀j,j+1<(qAc x r).length->qAj x r j≠[]->PcR x r bits j (Rs j)∧(Rs j).length≤10):Ret Tryz.prog 19 [qsD x,qD r,.int .i64 bits,.agg [isD (qDv x r Rs ((qAc x r).length-1)),isD (qCi x r)]] (·= .bool true):=by
 have rp:=h.rp
 have pf:=pts_few h.ne h.len fun j a b=>(hR j a b).2
 have hR1:=fun j a b=>(hR j a b).1
 have po:=pts_ok h hR1
 have pw:=pts_w h hR1
 have p1:=pts_one h hR1
 have pa:=(pts_asc h hR1 ((qAc x r).length-1) (by have:=qDw (k:=r) h.ne;omega)).1
 have pm:=pts_flat h hR1
 have ac:=all_cnt h hR1 ((qAc x r).length-1) (by have:=qDw (k:=r) h.ne;omega)
 rw [if_neg (by have:=qDw (k:=r) h.ne;omega),Int.add_zero] at ac
 have fl:=ref22_Flat h
 have al:=ref22_All h
 rw [←ac] at al
 have fo:=flatQ_ok (fun v hv=>(h.okx v hv).mono (show 2≤100 by decide)) (h.okr.mono (show 2≤100 by decide))
 have wi:=fun (y:I2) l o=>qPg h y l o
 have ff:(qCi x r).length≤100:=by
  unfold qCi
  have:=qNw r (cmpL (srt x))
  have:=qIa (srt x)
  have:=qE2 x
  have:=h.len
  omega
 have f1:=qBc 1 (by decide) (by decide)
 have tw:=ref04_Two bits (by omega)
 have ot:okQ 10 (twoQ bits):=okQ_two (by omega)
 have ht:=qKz 1 bits
 have tp:=qDj bits
 clear h hR hR1 ac
 generalize qAc x r=q at *
 generalize qCi x r=F at *
 generalize qDv x r Rs (q.length-1)=p at *
 have gm:∀i,i<p.length->p.getD i (0,0)∈p:=fun i hi=>by rw [List.getD_eq_getElem?_getD,List.getElem?_eq_getElem hi];exact List.getElem_mem _
 have gF:∀i,i<F.length->F.getD i (0,0)∈F:=fun i hi=>by rw [List.getD_eq_getElem?_getD,List.getElem?_eq_getElem hi];exact List.getElem_mem _
 have o1:=fun i hi=>po _ (gm i hi)
 have o2:=fun i hi=>fo _ (gF i hi)
 have sm:=fun i hi=>qMc (F.getD i (0,0)) (F.getD i (0,0)) ⟨(o2 i hi).2.1.mono (by decide),(o2 i hi).2.2.mono (by decide)⟩ ⟨(o2 i hi).2.1.mono (by decide),(o2 i hi).2.2.mono (by decide)⟩
 have vl:=fun i hi=>ref04_ValidI (p.getD i (0,0)) (o1 i hi).2
 have wd:=fun i hi=>ref04_WidthI (p.getD i (0,0)) (o1 i hi).1 (o1 i hi).2
 have ow:=fun i hi=>((o1 i hi).2.2).sub ((o1 i hi).2.1)
 have mu:=fun i hi=>qG6 ((p.getD i (0,0)).2-(p.getD i (0,0)).1) (twoQ bits) ((ow i hi).mono (by decide)) (ot.mono (by decide))
 have lq:=fun i hi=>qEa ((1:Int):Rat) (((p.getD i (0,0)).2-(p.getD i (0,0)).1)*twoQ bits) ((qF6 (by decide)).mono (by decide)) (((ow i hi).mul ot).mono (by decide))
 have lf:∀i,i<p.length->¬((1:Int):Rat)<((p.getD i (0,0)).2-(p.getD i (0,0)).1)*twoQ bits:=fun i hi k=>by
  have e1:((1:Int):Rat)=1:=rfl
  rw [e1] at k
  have:=Rat.mul_le_mul_of_nonneg_right (pw _ (gm i hi)) (Rat.le_of_lt tp)
  rw [ht] at this
  grind
 have wn:=fun i hi=>wi (p.getD i (0,0)) (o1 i hi).1 (o1 i hi).2
 have w1:=fun i hi=>p1 _ (gm i hi)
 have lt:∀i,i+1<p.length->(p.getD i (0,0)).2<(p.getD (i+1) (0,0)).1:=fun i hi=>by
  have:=List.pairwise_iff_getElem.1 pa i (i+1) (by omega) hi (by omega)
  rw [List.getD_eq_getElem?_getD,List.getElem?_eq_getElem (show i<p.length by omega),List.getD_eq_getElem?_getD,List.getElem?_eq_getElem hi]
  exact this
 have ls:=fun i (hi:i+1<p.length)=>qEa (p.getD i (0,0)).2 (p.getD (i+1) (0,0)).1 ((o1 i (by omega)).2.2.mono (by decide)) ((o1 (i+1) hi).2.1.mono (by decide))
 have me:=fun i k hi hk=>ref04_MeetI (p.getD i (0,0)) (F.getD k (0,0)) (o1 i hi).1 (o2 k hk).1 (o1 i hi).2 (o2 k hk).2
 have mn:=fun i k hi hk=>pm _ (gm i hi) _ (gF k hk)
 have lv:=fun i hi=>decide_eq_true (o1 i hi).1
 clear po pw p1 pa pm fo wi gm gF o1 o2 ow ot ht tp
 refine qAa tab Tryz.func19 rfl rfl (lblz rfl) (fun w0 F0=>?_)
 repeat' (first|refine wG ?_|refine wC fl ?_|refine wC al ?_|refine rg 2 13 ?_|refine rg 7 9 ?_|refine rg 13 32 ?_|refine rgK 18 11 [14] ?_|refine wS ?_ ?_<;>intro _|refine finG ?_)
 refine qAi (fun (i:Nat)=>([(0,.d (qsD x)),(2,.d (.int .i64 bits)),(5,.ptr 5 0),(7,.ptr 7 0),(9,.d (isD F)),(10,.d (.int .i64 i))],[(5,.box 27 ((rC (rq r)).map V.d)),(7,.box 44 [.d (isD p),.d (isD F)])])) (fun i=>i≤F.length) (fun i=>F.length-i) 0 (by omega) ⟨rfl,rfl,rfl,rfl,rfl,rfl,rfl⟩ ⟨rfl,rfl,trivial⟩ (fun i hi=>?_)
 by_cases h3:i<F.length
 ·have sm:=sm i h3
  rw [decide_eq_true rfl] at sm
  clear vl lv wd mu lq lf wn w1 lt ls me mn fl al
  repeat' (first|refine wG ?_|refine wC sm ?_|refine rg 2 13 ?_|refine rg 7 9 ?_|refine rg 13 32 ?_|refine rgK 18 11 [14] ?_|refine wS ?_ ?_<;>intro _|refine finG ?_)
  exact ⟨i+1,by omega,by omega,⟨rfl,rfl,rfl,rfl,rfl,iv (by omega),rfl⟩,rfl,rfl,trivial⟩
 ·clear sm fl al
  repeat' (first|refine wG ?_|refine rg 2 13 ?_|refine rg 7 9 ?_|refine rg 13 32 ?_|refine rgK 18 11 [14] ?_|refine wS ?_ ?_<;>intro _|refine finG ?_)
  refine qAi (fun (i:Nat)=>([(0,.d (qsD x)),(2,.d (.int .i64 bits)),(5,.ptr 5 0),(7,.ptr 7 0),(9,.d (isD F)),(11,.d (.int .i64 i))],[(5,.box 27 ((rC (rq r)).map V.d)),(7,.box 44 [.d (isD p),.d (isD F)])])) (fun i=>i≤p.length) (fun i=>p.length-i) 0 (by omega) ⟨rfl,rfl,rfl,rfl,rfl,rfl,rfl⟩ ⟨rfl,rfl,trivial⟩ (fun i hi'=>?_)
  by_cases h3':i<p.length
  ·have vl1:=vl i h3'
   have wd1:=wd i h3'
   have mu1:=mu i h3'
   have lq1:=lq i h3'
   have wn1:=wn i h3'
   rw [lv i h3'] at vl1
   rw [decide_eq_false (lf i h3')] at lq1
   rw [w1 i h3'] at wn1
   have me1:=fun k hk=>me i k h3' hk
   have mn1:=fun k hk=>mn i k h3' hk
   have e0:0<i->((i:Int)-1).toNat=i-1:=fun _=>by omega
   have sm:0<i->Ret Tryz.prog 29 [qD (p.getD ((i:Int)-1).toNat (0,0)).2,qD (p.getD i (0,0)).1] (·= .bool true):=fun h0=>by
    have a:=ls (i-1) (by omega)
    have b:=lt (i-1) (by omega)
    rw [decide_eq_true b,Nat.sub_add_cancel h0] at a
    rw [e0 h0]
    exact a
   clear vl lv wd mu lq lf wn w1 lt ls me mn
   generalize ((p.getD i (0,0)).2-(p.getD i (0,0)).1)*twoQ bits=u1 at *
   generalize (p.getD i (0,0)).2-(p.getD i (0,0)).1=u2 at *
   generalize twoQ bits=u3 at *
   by_cases h0:0<i
   ·have sm:=sm h0
    clear e0
    repeat' (first|(rename_i hq;exact absurd hq (by decide))|refine wG ?_|refine wC vl1 ?_|refine wC f1 ?_|refine wC wd1 ?_|refine wC tw ?_|refine wC mu1 ?_|refine wC lq1 ?_|refine wC wn1 ?_|refine wC sm ?_|refine rg 2 13 ?_|refine rg 7 9 ?_|refine rg 13 32 ?_|refine rgK 18 11 [14] ?_|refine wS ?_ ?_<;>intro _|refine finG ?_)
    refine qAi (fun (k:Nat)=>([(0,.d (qsD x)),(2,.d (.int .i64 bits)),(5,.ptr 5 0),(7,.ptr 7 0),(9,.d (isD F)),(11,.d (.int .i64 i)),(12,.ptr 12 0),(13,.d (.int .i64 k))],[(5,.box 27 ((rC (rq r)).map V.d)),(7,.box 44 [.d (isD p),.d (isD F)]),(12,.box 32 ((iC (rq (p.getD i (0,0)).1) (rq (p.getD i (0,0)).2)).map V.d))])) (fun k=>k≤F.length) (fun k=>F.length-k) 0 (by omega) ⟨rfl,rfl,rfl,rfl,rfl,rfl,rfl,rfl,rfl⟩ ⟨rfl,rfl,rfl,trivial⟩ (fun k hk=>?_)
    by_cases h4:k<F.length
    ·have me2:=me1 k h4
     rw [mn1 k h4] at me2
     simp only at me2
     clear mn1 vl1 wd1 mu1 lq1 wn1 sm
     repeat' (first|refine wG ?_|refine wC me2 ?_|refine rg 2 13 ?_|refine rg 7 9 ?_|refine rg 13 32 ?_|refine rgK 18 11 [14] ?_|refine wS ?_ ?_<;>intro _|refine finG ?_)
     exact ⟨k+1,by omega,by omega,⟨rfl,rfl,rfl,rfl,rfl,rfl,rfl,iv (by omega),rfl⟩,rfl,rfl,rfl,trivial⟩
    ·clear mn1 vl1 wd1 mu1 lq1 wn1 sm me1
     repeat' (first|refine wG ?_|refine rg 2 13 ?_|refine rg 7 9 ?_|refine rg 13 32 ?_|refine rgK 18 11 [14] ?_|refine wS ?_ ?_<;>intro _|refine finG ?_)
     exact ⟨i+1,by omega,by omega,⟨rfl,rfl,rfl,rfl,rfl,iv (by omega),rfl⟩,rfl,rfl,trivial⟩
   ·clear sm e0
    repeat' (first|(rename_i hq;exact absurd hq (by decide))|refine wG ?_|refine wC vl1 ?_|refine wC f1 ?_|refine wC wd1 ?_|refine wC tw ?_|refine wC mu1 ?_|refine wC lq1 ?_|refine wC wn1 ?_|refine rg 2 13 ?_|refine rg 7 9 ?_|refine rg 13 32 ?_|refine rgK 18 11 [14] ?_|refine wS ?_ ?_<;>intro _|refine finG ?_)
    refine qAi (fun (k:Nat)=>([(0,.d (qsD x)),(2,.d (.int .i64 bits)),(5,.ptr 5 0),(7,.ptr 7 0),(9,.d (isD F)),(11,.d (.int .i64 i)),(12,.ptr 12 0),(13,.d (.int .i64 k))],[(5,.box 27 ((rC (rq r)).map V.d)),(7,.box 44 [.d (isD p),.d (isD F)]),(12,.box 32 ((iC (rq (p.getD i (0,0)).1) (rq (p.getD i (0,0)).2)).map V.d))])) (fun k=>k≤F.length) (fun k=>F.length-k) 0 (by omega) ⟨rfl,rfl,rfl,rfl,rfl,rfl,rfl,rfl,rfl⟩ ⟨rfl,rfl,rfl,trivial⟩ (fun k hk=>?_)
    by_cases h4:k<F.length
    ·have me2:=me1 k h4
     rw [mn1 k h4] at me2
     simp only at me2
     clear mn1 vl1 wd1 mu1 lq1 wn1
     repeat' (first|refine wG ?_|refine wC me2 ?_|refine rg 2 13 ?_|refine rg 7 9 ?_|refine rg 13 32 ?_|refine rgK 18 11 [14] ?_|refine wS ?_ ?_<;>intro _|refine finG ?_)
     exact ⟨k+1,by omega,by omega,⟨rfl,rfl,rfl,rfl,rfl,rfl,rfl,iv (by omega),rfl⟩,rfl,rfl,rfl,trivial⟩
    ·clear mn1 vl1 wd1 mu1 lq1 wn1 me1
     repeat' (first|refine wG ?_|refine rg 2 13 ?_|refine rg 7 9 ?_|refine rg 13 32 ?_|refine rgK 18 11 [14] ?_|refine wS ?_ ?_<;>intro _|refine finG ?_)
     exact ⟨i+1,by omega,by omega,⟨rfl,rfl,rfl,rfl,rfl,iv (by omega),rfl⟩,rfl,rfl,trivial⟩
  ·have e:i=p.length:=by omega
   subst e
   clear vl lv wd mu lq lf wn w1 lt ls me mn
   repeat' (first|refine wG ?_|refine rg 2 13 ?_|refine rg 7 9 ?_|refine rg 13 32 ?_|refine rgK 18 11 [14] ?_|refine wS ?_ ?_<;>intro _|refine finG ?_)
   rfl
theorem made_tk3(raw:List Int)(v:Int)(h0:(raw.take 3).map numQ≠[]):∃P,TkIn 12 P 12 ((raw.take 3).map numQ) (radQ v):=by
 have e:raw.take 3=(raw.take 3).take 5:=by rw [List.take_take];rfl
 rw [e] at h0 ⊢
 exact made_tk (raw.take 3) v h0
theorem law22_Made(raw:List Int)(v b:Int)(hl:raw.length≤9223372036854775807)(hx:I64 raw)(v1: -9223372036854775808≤v)(v2:v<9223372036854775808)(b1: -9223372036854775808≤b)(b2:b<9223372036854775808):Ret Tryz.prog 4 [i64s raw,.int .i64 v,.int .i64 b] (·= .bool true):=by
 have aw:=law22_awake
 have nm:=made_Numbers raw 3 hl hx (by decide)
 have r1:=law22_radius v v1 v2
 have mo:=made_ModI b 8 b1 b2 (by decide) (by decide)
 obtain ⟨n,hn,hn8⟩:∃n:Nat,b%8=(n:Int)∧n≤8:=⟨(b%8).toNat,by omega,by omega⟩
 rw [hn] at mo
 obtain ⟨x,hxx⟩:∃x,(raw.take 3).map numQ=x:=⟨_,rfl⟩
 by_cases h0:x=[]
 ·rw [hxx,h0] at nm
  clear hxx
  generalize radQ v=ra at *
  refine qAa tab Tryz.func4 rfl rfl (lblz rfl) (fun w0 F0=>?_)
  repeat' (first|refine wG ?_|refine wC nm ?_|refine wC r1 ?_|refine wC aw ?_|refine wS ?_ ?_<;>intro _|refine finG ?_)
  all_goals first|rfl|(exfalso;omega)
 ·obtain ⟨P,tk⟩:=made_tk3 raw v (by rw [hxx];exact h0)
  rw [hxx] at tk nm
  have lx0:=List.length_pos_iff.2 h0
  have lx:=tk.len
  obtain ⟨Rs,q1,T1⟩:=tukey_gen tk (bits:=n) (by omega)
  have ri:=law22_right tk hn8 q1
  generalize qDv x (radQ v) Rs ((qAc x (radQ v)).length-1)=p1 at *
  generalize qCi x (radQ v)=F at *
  generalize radQ v=r at *
  clear tk q1 hxx hx hn h0
  refine qAa tab Tryz.func4 rfl rfl (lblz rfl) (fun w0 F0=>?_)
  repeat' (first|refine wG ?_|refine wC nm ?_|refine wC r1 ?_|refine wC mo ?_|refine wC T1 ?_|refine wC aw ?_|refine wC ri ?_|refine wS ?_ ?_<;>intro _|refine finG ?_)
  all_goals rfl
end Go.Proofs.YtejigedigmagdaaGreat
