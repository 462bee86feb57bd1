/-
 Contracts of functions of the program, and the layer that they are walked with: Y29 Y30 Z05 Y31 PolZ PolW VUc Y32 Y33 S67 S69 Y34 TukA TukB TukC TukD TukE TukF TukG Z06 Z09 Z10 Z11 Z12. Conditions: as each says.
-/
import Derived.Test.YtejigedigmagdaaGreatA10
set_option linter.unnecessarySimpa false
set_option linter.unusedVariables false
set_option linter.unusedSimpArgs false
set_option maxHeartbeats 8000000
namespace Go.Proofs.YtejigedigmagdaaGreat
open Go.Vw
attribute [local irreducible] awp awpL awpR
structure PolOk (p:List Rat):Prop where
 len:p.length≤8
 ok:∀x∈p,okQ 100 x
 ctr:qAd p≠[]->CtrOk (qAd p)∧∃M,JS (qAz (ctrQ (qAd p))) (qAz (derP (ctrQ (qAd p)))) M
theorem PolOk.trim{p:List Rat}(h:PolOk p):PolOk (qAd p):=⟨Nat.le_trans (qAu p) h.len,fun x hx=>h.ok x (qLc hx),by rw [qIp];exact h.ctr⟩
def cntV(p:List Rat)(X:I2):Int:=if qAd p=[] then-1 else cntF (ctr (qAd p)) X.1 X.2
def holdsB(p:List Rat)(X:I2):Bool:=decide (X.1≤X.2)&&(if X.1=X.2 then decide (qAb p X.1=0) else decide (cntV p X=1))
theorem ref05_CountV{p:List Rat}(hp:PolOk p)(x y:Rat)(ox:okQ 150000 x)(oy:okQ 150000 y):Ret Tryz.prog 162 [qsD p,qD x,qD y] (·= .int .i64 (cntV p (x,y))):=by
 have h:=ref05_Count (p.map rq) (rq x) (rq y) (by rw [List.length_map];have:=hp.len;omega) (qBq fun x hx=>(hp.ok x hx).mono (by decide)) (by rw [qAf];exact hp.ctr) (qAs (ox.mono (by decide))) (qAs (oy.mono (by decide)))
 rw [qAf,qAw,qAw] at h
 exact h.args (qCw p (LeT.refl _))
theorem evalV_ok{p:List Rat}(hp:PolOk p)(x:Rat)(ox:okQ 150000 x):okQ 2000000 (qAb p x):=by
 have h:=qMl hp.ok ox (by decide) p.length (Nat.le_refl _)
 rw [qJp] at h
 refine h.mono ?_
 have:=hp.len
 have:=Nat.mul_le_mul_right (100+150000) (show p.length≤8 by omega)
 omega
theorem qQ4{p:List Rat}(hp:PolOk p)(x:Rat)(ox:okQ 150000 x):Ret Tryz.prog 163 [qsD p,qD x] (·=qD (qAb p x))∧okQ 2000000 (qAb p x):=by
 have hl:=hp.len
 have hk:∀k,k≤p.length->okQ 2000000 (qKa p x k):=fun k hk=>by
  refine (qMl hp.ok ox (by decide) k hk).mono ?_
  have:=Nat.mul_le_mul_right (100+150000) (show k≤8 by omega)
  omega
 have h:=qQ5 (p.map rq) (rq x) (by rw [List.length_map];omega) (qBq fun x hx=>(hp.ok x hx).mono (by decide)) (qAs (ox.mono (by decide))) (by rw [qAf,List.length_map,qAw];exact fun k hk2=>(hk k hk2).mono (by decide))
 rw [qAf,qAw] at h
 refine ⟨h.args (qCw p (LeT.refl _)),?_⟩
 have:=hk p.length (Nat.le_refl _)
 rwa [qJp] at this
theorem qC0{p:List Rat}(hp:PolOk p)(x:Rat)(ox:okQ 150000 x):Ret Tryz.prog 60 [qsD p,qD x] (·=qD (qAb p x)):=by
 have hl:=hp.len
 have hk:∀k,k≤p.length->okQ 2000000 (qKa p x k):=fun k hk=>by
  refine (qMl hp.ok ox (by decide) k hk).mono ?_
  have:=Nat.mul_le_mul_right (100+150000) (show k≤8 by omega)
  omega
 have h:=qKq (p.map rq) (rq x) (by rw [List.length_map];omega) (qBq fun x hx=>(hp.ok x hx).mono (by decide)) (qAs (ox.mono (by decide))) (by rw [qAf,List.length_map,qAw];exact fun k hk2=>(hk k hk2).mono (by decide))
 rw [qAf,qAw] at h
 exact h.args (qCw p (LeT.refl _))
theorem ref04_ValidI(X:I2)(oX:okI 150000 X):Ret Tryz.prog 63 [iQ X] (·= .bool (decide (X.1≤X.2))):=by
 have h:=ref04_Valid (rq X.1) (rq X.2) (qAs (oX.1.mono (by decide))) (qAs (oX.2.mono (by decide)))
 rwa [qMw,qMw,qAw,qAw,Bool.true_and,Bool.true_and] at h
theorem qNg(p:List Rat)(hp:p.length≤400)(kp:∀x∈p,okQ 1000000 x):Ret Tryz.prog 152 [qsD p] (·= .int .i64 (((qAd p).length:Int)-1)):=by
 have h:=qOm (p.map rq) (by rw [List.length_map];omega) (qBq fun x hx=>(kp x hx).mono (by decide))
 rw [qAf] at h
 exact h.args (qCw p (LeT.refl _))
theorem newCounterV{p:List Rat}(hp:PolOk p)(p0:qAd p≠[]):Ret Tryz.prog 153 [qsD p] (·=qssD (ctr (qAd p))):=by
 have h:=qGi (p.map rq) (by rw [List.length_map];have:=hp.len;omega) (qBq fun x hx=>(hp.ok x hx).mono (by decide)) (by rw [qAf];exact (hp.ctr p0).1)
 rw [qAf] at h
 exact h.args (qCw p (LeT.refl _))
theorem countV{p:List Rat}(hp:PolOk p)(p0:qAd p≠[])(x y:Rat)(ox:okQ 150000 x)(oy:okQ 150000 y):Ret Tryz.prog 188 [qssD (ctr (qAd p)),qD x,qD y] (·= .int .i64 (cntF (ctr (qAd p)) x y)):=by
 obtain ⟨hk,_⟩:=hp.ctr p0
 obtain ⟨M,f⟩:=hk.fit2
 have hfit:=f.chain chOk_small ((ctrQ (qAd p)).length+1)
 have cln:=qHr qAz ((ctrQ (qAd p)).length+1) (ctrQ (qAd p)) (derP (ctrQ (qAd p)))
 have ql:=hk.ql
 have h:=qN0 (ctr (qAd p)) (rq x) (rq y) (by unfold ctr;omega) (fun g hg=>by
  obtain ⟨g1,M',g2⟩:=hfit g hg
  refine ⟨?_,M',g2⟩
  have b:=g2.2
  by_cases g0:g.length≤13
  ·exact g0
  ·exfalso
   have b3:=Nat.pow_le_pow_right (show 0<3 by decide) (show 14≤g.length by omega)
   have b4:=Nat.mul_le_mul_right (3^g.length) (show 1≤M'+1 by omega)
   have b5:(3:Nat)^14=4782969:=by decide
   unfold Bud at b
   omega) (qAs (ox.mono (by decide))) (qAs (oy.mono (by decide)))
 rwa [qAw,qAw] at h
theorem qIg(X:I2)(oX:okI 150000 X)(h:X.1≤X.2):Ret Tryz.prog 40 [iQ X,iQ X] (·=iQ X):=by
 have k:=interval_Hull (rq X.1) (rq X.2) (rq X.1) (rq X.2) (qAs (oX.1.mono (by decide))) (qAs (oX.2.mono (by decide))) (qAs (oX.1.mono (by decide))) (qAs (oX.2.mono (by decide)))
 rwa [qAw,qAw,hullI_same h] at k
theorem qNd(x:Rat)(hx:okQ 10000000 x):Ret Tryz.prog 44 [qD x,rD r0] (·=qD x):=by
 have a:=qC2 (rq x) r0 (qAs hx) ok_r0K
 rw [qAw,rv_r0,Rat.add_zero] at a
 exact a
theorem hubV_ok{x:List Rat}{k:Rat}(hl:x.length≤6)(hx:∀v∈x,okQ 100 v)(ok:okQ 100 k)(j:Nat):okQ 30000 (hubV x k j):=by
 unfold hubV
 have ot:okQ 200 ((qAc x k).getD j 0):=qCv (fun y hy=>(qO2 hx ok y (endsQ_mem.1 hy)).mono (by decide)) (by decide) j
 refine (hub_ok (ok.mono (by decide)) ot (by decide) (x:=x) fun v hv=>(hx v hv).mono (by decide)).mono ?_
 have:=Nat.mul_le_mul_right (2*200) hl
 omega
def HubAt(x:List Rat)(k lo hi:Rat):Prop:=(∃f l,HubZ x k f l∧lo=(qAc x k).getD f 0∧hi=(qAc x k).getD l 0)∨∃i,HubN x k i∧lo=(qAc x k).getD (i-1) 0+hubV x k (i-1)/(hubV x k (i-1)-hubV x k i)*((qAc x k).getD i 0-(qAc x k).getD (i-1) 0)∧hi=lo
theorem HubAt.ex{x:List Rat}{k:Rat}(hk:0<k)(x0:x≠[]):∃lo hi,HubAt x k lo hi:=by
 rcases hub_cases hk x0 with ⟨f,l,h⟩|⟨i,h⟩
 ·exact ⟨_,_,.inl ⟨f,l,h,rfl,rfl⟩⟩
 ·exact ⟨_,_,.inr ⟨i,h,rfl,rfl⟩⟩
theorem HubAt.spec{x:List Rat}{k lo hi:Rat}(hk:0<k)(h:HubAt x k lo hi):HubSpec x k lo hi:=by
 rcases h with ⟨f,l,h,rfl,rfl⟩|⟨i,h,rfl,rfl⟩
 ·exact h.spec hk
 ·refine h.spec hk ?_
  have a:=h.pos (i-1) (by have:=h.i0;omega)
  have b:=h.neg i (Nat.le_refl _) h.ln
  generalize hubV x k (i-1)=u at *
  generalize hubV x k i=v at *
  generalize (qAc x k).getD (i-1) 0=p at *
  generalize (qAc x k).getD i 0=q at *
  have e:u/(u-v)*(u-v)=u:=Rat.div_mul_cancel (by grind)
  generalize u/(u-v)=w at *
  grind
theorem HubAt.ok{x:List Rat}{k lo hi:Rat}(hl:x.length≤6)(hx:∀v∈x,okQ 100 v)(ok:okQ 100 k)(h:HubAt x k lo hi):okI 100000 (lo,hi):=by
 have oq:∀j,okQ 200 ((qAc x k).getD j 0):=fun j=>qCv (fun y hy=>(qO2 hx ok y (endsQ_mem.1 hy)).mono (by decide)) (by decide) j
 have oV:=hubV_ok hl hx ok
 rcases h with ⟨f,l,h,rfl,rfl⟩|⟨i,h,rfl,rfl⟩
 ·exact ⟨(oq f).mono (by decide),(oq l).mono (by decide)⟩
 ·have a:=h.pos (i-1) (by have:=h.i0;omega)
  have b:=h.neg i (Nat.le_refl _) h.ln
  have o:=((oq (i-1)).add (((oV (i-1)).div ((oV (i-1)).sub (oV i)) (by grind)).mul ((oq i).sub (oq (i-1))))).mono (show _≤100000 by decide)
  exact ⟨o,o⟩
theorem qTb(x:List Rat)(k:Rat)(hl:x.length≤6)(hx:∀v∈x,okQ 100 v)(ok:okQ 100 k)(hk:0<k)(he:qUz x k=0){lo hi:Rat}(at_:HubAt x k lo hi):Ret Tryz.prog 12 [qsD x,qD k] (·= .tup [iQ (lo,hi),.int .i64 0]):=by
 have ck:=qPl x k (ok.mono (by decide))
 rw [he] at ck
 have br:=qNl x k hl hx ok
 have ql:=qI7 x k
 have oq:∀j,okQ 200 ((qAc x k).getD j 0):=fun j=>qCv (fun y hy=>(qO2 hx ok y (endsQ_mem.1 hy)).mono (by decide)) (by decide) j
 have oV:=hubV_ok hl hx ok
 have hu:∀j,Ret Tryz.prog 36 [qsD x,qD k,qD ((qAc x k).getD j 0)] (·=qD (hubV x k j)):=fun j=>mroots_huber x k _ (by omega) (fun v hv=>(hx v hv).mono (by decide)) (ok.mono (by decide)) ((oq j).mono (by decide)) hk
 have oI:=HubAt.ok hl hx ok at_
 have hsp:=(at_.spec hk).le
 obtain ⟨vf,hV⟩:∃vf:Nat->Rat,∀j,vf j=hubV x k j:=⟨hubV x k,fun _=>rfl⟩
 obtain ⟨q,hq⟩:∃q,qAc x k=q:=⟨_,rfl⟩
 have vals:∀j,j<q.length->((List.range q.length).map vf).getD j 0=vf j:=fun j hj=>by
  rw [List.getD_eq_getElem?_getD,List.getElem?_map,List.getElem?_range hj];rfl
 have oV2:∀j,okQ 30000 (vf j):=fun j=>by rw [hV];exact oV j
 have cs:(∃f l,f≤l∧l+1<q.length∧(∀j,j<f->0<vf j)∧(∀j,f≤j->j≤l->vf j=0)∧(∀j,l<j->j<q.length->vf j<0)∧lo=q.getD f 0∧hi=q.getD l 0)∨∃i,0<i∧i<q.length∧(∀j,j<i->0<vf j)∧(∀j,i≤j->j<q.length->vf j<0)∧lo=q.getD (i-1) 0+vf (i-1)/(vf (i-1)-vf i)*(q.getD i 0-q.getD (i-1) 0)∧hi=lo:=by
  rw [←hq,show vf=hubV x k from funext hV]
  rcases at_ with ⟨f,l,h,e1,e2⟩|⟨i,h,e1,e2⟩
  ·exact .inl ⟨f,l,h.fl,h.ln,h.pos,h.zero,h.neg,e1,e2⟩
  ·exact .inr ⟨i,h.i0,h.ln,h.pos,h.neg,e1,e2⟩
 rw [hq] at br ql oq hu
 clear at_ hx
 refine qAa tab Tryz.func12 rfl rfl (lblz rfl) (fun w0 F0=>?_)
 repeat' (first|refine wG ?_|refine stepMake (mm:=true) (en:=rC) (z:=r0) tt rfl rfl rfl rfl rfl rfl rfl rfl rfl rfl rfl rfl leL sc sc ?_|refine stepMake (mm:=false) (en:=rC) (z:=r0) tt rfl rfl rfl rfl rfl rfl rfl rfl rfl rfl rfl rfl leL sc sc ?_|refine wC ck ?_|refine wC br ?_|refine rg 17 18 ?_|refine rgK 19 21 [15] ?_|refine rgK 20 19 [17] ?_|refine rg 21 4 ?_|refine wS ?_ ?_<;>intro _|refine finG ?_)
 refine qJy (Conv.box 4 (cs:=[.bool false,.nils,.nils,.bool false,.nils,.nils]) (iC r0 r0) rfl leL) ?_
 refine qAi (fun (j:Nat)=>([(0,.d (qsD x)),(3,.ptr 3 0),(4,.ptr 4 0),(5,.d (.int .i64 0)),(7,.d (qsD q)),(8,.own 30 0 q.length 27 3),(31,.d (qsD q)),(32,.d (.int .i64 q.length)),(33,.d (.int .i64 j))],[(3,.box 27 ((rC (rq k)).map V.d)),(4,.box 32 ((iC r0 r0).map V.d)),(30,.data 27 3 rC r0 (rqL q.length (fun a=>if a<j then vf a else 0)))])) (fun j=>j≤q.length) (fun j=>q.length-j) 0 (by omega) ⟨rfl,rfl,rfl,rfl,rfl,qEn (by omega),rfl,rfl,rfl,rfl⟩ ⟨rfl,rfl,qBr (by rw [←qVi q.length (v:=fun a=>if a<0 then vf a else 0) (fun j=>if_neg (by omega))]),trivial⟩ (fun j hj=>?_)
 have hrl:=qMb q.length (fun a=>if a<j then vf a else 0)
 by_cases h3:j<q.length
 ·have cu:=hu j
  rw [←hV j] at cu
  have es:=rqL_set (m:=q.length) (v:=fun a=>if a<j then vf a else 0) (v':=fun a=>if a<j+1 then vf a else 0) (k:=j) (x:=vf j) (by rw [if_pos (by omega)]) (fun b hb=>by
   by_cases hbj:b<j
   ·rw [if_pos hbj,if_pos (by omega)]
   ·rw [if_neg hbj,if_neg (by omega)])
  clear hu oV vals oq cs oV2 hsp
  repeat' (first|refine wG ?_|refine wC cu ?_|refine rg 17 18 ?_|refine rgK 19 21 [15] ?_|refine rgK 20 19 [17] ?_|refine rg 21 4 ?_|refine wS ?_ ?_<;>intro _|refine finG ?_)
  exact ⟨j+1,by omega,by omega,⟨rfl,rfl,rfl,rfl,rfl,rfl,rfl,rfl,iv (by omega),rfl⟩,rfl,rfl,qBr es,trivial⟩
 ·have e:j=q.length:=by omega
  subst e
  obtain ⟨W,hW⟩:∃W,(List.range q.length).map vf=W:=⟨_,rfl⟩
  have hWl:W.length=q.length:=by rw [←hW,List.length_map,List.length_range]
  have eW:rqL q.length (fun a=>if a<q.length then vf a else 0)=W.map rq:=by
   rw [rqL_qs,←hW]
   congr 1
   exact List.map_congr_left fun a ha=>if_pos (List.mem_range.1 ha)
  rw [hW] at vals
  refine awp_frz 30 rfl ?_
  refine awp_cast 8 (qsD W) rfl (by
   have e1:cut 0 q.length (rqL q.length fun a=>if a<q.length then vf a else 0)=W.map rq:=by rw [cut_zero,List.take_of_length_le (by rw [qMb];omega),eW]
   show LeD (.sl 3 rC r0 (cut 0 q.length (rqL q.length fun a=>if a<q.length then vf a else 0))) (qsD W)
   rw [e1]
   exact leRQ W) ?_
  have oW:∀i,i<q.length->okQ 1000000 (W.getD i 0):=fun i hi=>by rw [vals i hi];exact (oV2 i).mono (by decide)
  clear hu oV eW
  rcases cs with ⟨f,l,hfl,hln,hp,hz,hn,rfl,rfl⟩|⟨i,i0,hln,hp,hn,elo,rfl⟩
  ·have ix:=qUl 37 W (fun v=>v=0) f (by omega) (by omega) (fun i hi=>qPb _ (oW i (by omega))) (by rw [vals f (by omega)];exact hz f (Nat.le_refl _) hfl) (fun i hi=>by rw [vals i (by omega)];have:=hp i hi;grind)
   have hH:=qIg (q.getD f 0,q.getD l 0) ⟨oI.1.mono (by decide),oI.2.mono (by decide)⟩ hsp
   have hzW:∀j,f≤j->j≤l->W.getD j 0=0:=fun j a b=>by rw [vals j (by omega)];exact hz j a b
   have hnW:W.getD (l+1) 0≠0:=by rw [vals (l+1) hln];have:=hn (l+1) (by omega) hln;grind
   clear oV2 hp hz hn vals
   repeat' (first|refine wG ?_|refine wC ix ?_|refine rg 17 18 ?_|refine rgK 19 21 [15] ?_|refine rgK 20 19 [17] ?_|refine rg 21 4 ?_|refine wS ?_ ?_<;>intro _|refine finG ?_)
   refine qAi (fun (j:Nat)=>([(0,.d (qsD x)),(3,.ptr 3 0),(4,.ptr 4 0),(5,.d (.int .i64 0)),(7,.d (qsD q)),(8,.d (qsD W)),(11,.d (.fn 37 [])),(12,.d (.int .i64 f)),(13,.d (.int .i64 j))],[(3,.box 27 ((rC (rq k)).map V.d)),(4,.box 32 ((iC r0 r0).map V.d))])) (fun j=>f≤j∧j≤l) (fun j=>l-j) f ⟨Nat.le_refl _,hfl⟩ ⟨rfl,rfl,rfl,rfl,rfl,rfl,rfl,rfl,rfl,rfl⟩ ⟨rfl,rfl,trivial⟩ (fun j hj=>?_)
   have zz:=qPb (W.getD (j+1) 0) (oW (j+1) (by omega))
   by_cases h4:j<l
   ·rw [decide_eq_true (hzW (j+1) (by omega) (by omega))] at zz
    clear hzW hnW oW oq
    repeat' (first|refine wG ?_|refine wC zz ?_|refine rg 17 18 ?_|refine rgK 19 21 [15] ?_|refine rgK 20 19 [17] ?_|refine rg 21 4 ?_|refine wS ?_ ?_<;>intro _|refine finG ?_)
    exact ⟨j+1,by omega,by omega,⟨rfl,rfl,rfl,rfl,rfl,rfl,rfl,rfl,iv (by omega),rfl⟩,rfl,rfl,trivial⟩
   ·have e:j=l:=by omega
    subst e
    rw [decide_eq_false hnW] at zz
    clear hzW hnW oW oq
    repeat' (first|refine wG ?_|refine wC zz ?_|refine wC hH ?_|refine rg 17 18 ?_|refine rgK 19 21 [15] ?_|refine rgK 20 19 [17] ?_|refine rg 21 4 ?_|refine wS ?_ ?_<;>intro _|refine qFx ?_)
    exact leT
  ·have ix:=index_none 37 W (fun v=>v=0) (by omega) (fun i hi=>qPb _ (oW i (by omega))) (fun j hj=>by
    rw [vals j (by omega)]
    by_cases h4:j<i
    ·have:=hp j h4;grind
    ·have:=hn j (by omega) (by omega);grind)
   have iy:=qUl 41 W (fun v=>v<0) i (by omega) (by omega) (fun i hi=>Huber_neg _ (oW i (by omega))) (by rw [vals i (by omega)];exact hn i (Nat.le_refl _) hln) (fun j hj=>by rw [vals j (by omega)];have:=hp j hj;grind)
   have p1:=hp (i-1) (by omega)
   have n1:=hn i (Nat.le_refl _) hln
   have e0:((i:Int)-1).toNat=i-1:=by omega
   rw [←vals (i-1) (by omega),←vals i hln,←e0] at elo
   rw [←vals (i-1) (by omega),←e0] at p1
   rw [←vals i hln] at n1
   have ou:=(oW (i-1) (by omega)).mono (show 1000000≤1000000 by decide)
   rw [←e0] at ou
   have ov:=oW i hln
   have oq1:=oq ((i:Int)-1).toNat
   have oq2:=oq i
   generalize hu:W.getD ((i:Int)-1).toNat 0=u at *
   generalize hv:W.getD i 0=v at *
   generalize ha:q.getD ((i:Int)-1).toNat 0=a at *
   generalize hb:q.getD i 0=b at *
   have d0:u-v≠0:=by grind
   have s1:=qDl u v (ou.mono (by decide)) (ov.mono (by decide))
   have os:=ou.sub ov
   have d1:=qGy u (u-v) (ou.mono (by decide)) (os.mono (by decide))
   rw [if_neg d0] at d1
   have od:=ou.div os d0
   have s2:=qDl b a (oq2.mono (by decide)) (oq1.mono (by decide))
   have o2:=oq2.sub oq1
   have m1:=qJf _ _ (od.mono (by decide)) (o2.mono (by decide))
   have a1:=qFg _ _ (oq1.mono (by decide)) ((od.mul o2).mono (by decide))
   rw [←elo] at a1
   have a2:=qNd hi (oI.1.mono (show 100000≤10000000 by decide))
   rw [←hu,←hv] at s1 d1 m1 a1
   rw [←ha,←hb] at s2 m1 a1
   have hi1:1≤i:=i0
   clear oV2 hp hn vals oW oq elo
   repeat' (first|refine wG ?_|refine wC ix ?_|refine wC iy ?_|refine wC s1 ?_|refine wC d1 ?_|refine wC s2 ?_|refine wC m1 ?_|refine wC a1 ?_|refine wC a2 ?_|refine rg 17 18 ?_|refine rgK 19 21 [15] ?_|refine rgK 20 19 [17] ?_|refine rg 21 4 ?_|refine wS ?_ ?_<;>intro _|refine qFx ?_)
   exact leT
theorem qRz(X:I2)(oX:okI 150000 X)(h:X.1≤X.2):Ret Tryz.prog 110 [iQ X] (·=qD (X.2-X.1)):=by
 have k:=qTc (rq X.1) (rq X.2) (qAs (oX.1.mono (by decide))) (qAs (oX.2.mono (by decide)))
 rwa [qAw,qAw,qGx h] at k
theorem qFp(X:I2)(oX:okI 150000 X)(h:X.1≤X.2):Ret Tryz.prog 55 [iQ X] (·=qD (mid2 X)):=by
 have k:=interval_Mid (rq X.1) (rq X.2) (qAs (oX.1.mono (by decide))) (qAs (oX.2.mono (by decide)))
 rwa [qAw,qAw,qGx h] at k
abbrev cfn(p:List Rat):Rat->Rat->Int:=fun a b=>cntF (ctr (qAd p)) a b
end Go.Proofs.YtejigedigmagdaaGreat
namespace Go.Vw
theorem ht_gt{h:Nat}{p:List Rat}(H:HtP h p):1<h:=by
 obtain ⟨c,P,c0,hc,hp⟩:=H
 have h0:ln c.natAbs≠0:=fun e=>by
  unfold ln at e
  have h1:=qCh c.natAbs
  rw [e,Nat.pow_zero] at h1
  omega
 omega
def farT:Nat->Nat
 |0=>4
 |1=>4
 |2=>13
 |n=>n+13
theorem farT_le{m n:Nat}(h:m≤n):farT m≤farT n:=by
 match m,n with
 |0,0=>decide
 |0,1=>decide
 |0,2=>decide
 |0,n+3=>show 4≤n+3+13;omega
 |1,1=>decide
 |1,2=>decide
 |1,n+3=>show 4≤n+3+13;omega
 |2,2=>decide
 |2,n+3=>show 13≤n+3+13;omega
 |m+3,n+3=>show m+3+13≤n+3+13;omega
 |m+1,0=>omega
 |m+2,1=>omega
 |m+3,2=>omega
theorem farT_step{n:Nat}(h:1≤n):farT n*3^(n+1)+81≤farT (n+1)*3^(n+1):=by
 match n with
 |1=>decide
 |2=>decide
 |n+3=>
  show (n+3+13)*3^(n+3+1)+81≤(n+4+13)*3^(n+3+1)
  have:81≤3^(n+3+1):=by
   have:=Nat.pow_le_pow_right (show 0<3 by decide) (show 4≤n+3+1 by omega)
   simpa using this
  have e:(n+4+13)*3^(n+3+1)=(n+3+13)*3^(n+3+1)+3^(n+3+1):=by
   rw [show n+4+13=(n+3+13)+1 by omega,Nat.add_mul,Nat.one_mul]
  omega
structure ChX (ch:List Rat->List Rat):Prop where
 ok:ChOk ch
 ev:∀p,Tr p->p≠[]->∀x,qAb p x=ab (lead p)*qAb (ch p) x
theorem far_js{ch:List Rat->List Rat}(hs:ChS ch)(hc:ChX ch){G:Nat}:∀(n:Nat) {a b:List Rat} {M:Nat},Tr a->Tr b->a≠[]->b≠[]->b.length<a.length->HtP M a->HtP M b->(M+1)*3^a.length≤G->Bez a b->b.length≤n->FarB (farT b.length*G) a b
 |0,a,b,M,ta,tb,a0,b0,hl,ha,hb,bud,hz,hn=>absurd (List.length_eq_zero_iff.1 (Nat.le_zero.1 hn)) b0
 |n+1,a,b,M,ta,tb,a0,b0,hl,ha,hb,bud,hz,hn=>by
  obtain ⟨hz2,_,_,_⟩:=bez_next hs ta tb b0 hz
  have lb:=qA2 b0
  obtain ⟨e,he⟩:∃e,a.length=b.length+e:=⟨a.length-b.length,by omega⟩
  have e1:1≤e:=by omega
  have p3:=qMi e e1
  have pw:3^a.length=3^b.length*3^e:=by rw [he,Nat.pow_add]
  have hr:=qOf ta tb b0 ha hb
  have hq:=divP_ht ta tb b0 ha hb
  have lq:(divP a b).1.length≤a.length+1-b.length:=(divP_q ta tb b0 ha hb (ht_gt ha)).2
  have tr:=qEl ta tb b0
  have lr:=qC4 ta tb b0
  have M1:=ht_gt ha
  rw [show a.length+1-b.length=e+1 by omega] at hr hq lq
  by_cases r0:remP a b=[]
  ·have c0:ch (negC (remP a b))=[]:=List.length_eq_zero_iff.1 (by rw [hc.ok.len,r0];rfl)
   rw [c0] at hz2
   obtain ⟨v,v0,rfl⟩:=qN5 tb hz2
   intro x hx
   right
   have ov:okQ M v:=hb.ok 0
   have h1:=ok_low ov v0
   rw [show qAb [v] x=v by simp only [qAb];grind]
   refine Rat.le_trans (qHl ?_) h1
   show 32*M≤4*G
   have h9:3^2≤3^a.length:=Nat.pow_le_pow_right (by decide) (by omega)
   have:=Nat.mul_le_mul_left (M+1) h9
   omega
  ·have tn:=qJ2 tr
   have n0:negC (remP a b)≠[]:=fun e=>r0 (by unfold negC at e;exact smul_eq_nil.1 e)
   have nl:(negC (remP a b)).length=(remP a b).length:=qBd _ _
   have kl:=hc.ev _ tn n0
   have cl:(ch (negC (remP a b))).length=(remP a b).length:=by rw [hc.ok.len,nl]
   have c0:ch (negC (remP a b))≠[]:=fun e=>r0 (List.length_eq_zero_iff.1 (by rw [←cl,e];rfl))
   have hcM:=hc.ok.ht _ _ tn hr.neg
   obtain ⟨M',hM'⟩:∃M',M+(e+1)*M+1=M':=⟨_,rfl⟩
   rw [hM'] at hcM
   have em:(e+1)*M=e*M+M:=by rw [Nat.add_mul,Nat.one_mul]
   have k1:M'+1≤(M+1)*3^e:=by
    have:=Nat.mul_le_mul_left (M+1) p3
    have e5:(M+1)*(e+2)=e*M+2*M+(e+2):=by rw [Nat.add_mul,Nat.mul_add,Nat.mul_comm M e];omega
    omega
   have k2:(M'+1)*3^b.length≤G:=by
    refine Nat.le_trans (Nat.mul_le_mul_right _ k1) ?_
    rw [Nat.mul_assoc,Nat.mul_comm (3^e),←pw];exact bud
   have ih:=far_js hs hc n tb (hc.ok.tr _ tn) b0 c0 (by rw [cl];exact lr) (hb.mono (by omega)) hcM k2 hz2 (by rw [cl];omega)
   have lead0:lead (negC (remP a b))≠0:=qCo tn n0
   have hk:=ok_low (show okQ (M+(e+1)*M) (lead (negC (remP a b))) from hr.neg.ok _) lead0
   have step:=FarB.step (a:=a) (q:=(divP a b).1) (k:=ab (lead (negC (remP a b)))) ih (fun x=>by
    have hs:=qE1 x (qBy ta tb b0).2.2.2
    rw [qBh,qAg] at hs
    have h2:=kl x
    rw [←h2]
    unfold negC
    rw [qA4,show remP a b=(divP a b).2 from rfl]
    grind) hk (fun i=>hq.ok i) (m:=32*(M+(e+1)*M+M)+13*(e+1)+1) (by omega)
   refine step.mono ?_
   rw [cl]
   obtain ⟨j,hj⟩:∃j,b.length=j+1:=⟨b.length-1,by omega⟩
   have lr1:=qA2 r0
   have t1:=farT_le (show (remP a b).length≤j by omega)
   have t2:=farT_step (show 1≤j by omega)
   rw [hj]
   have g1:=Nat.mul_le_mul_right G t1
   -- the room that one step leaves
   have room:farT j*G+81*((M+1)*3^e)≤farT (j+1)*G:=by
    obtain ⟨d,hd⟩:∃d,farT (j+1)=farT j+d:=⟨farT (j+1)-farT j,by have:=farT_le (show j≤j+1 by omega);omega⟩
    have e9:(farT j+d)*G=farT j*G+d*G:=Nat.add_mul ..
    rw [hd,e9]
    rw [hd,Nat.add_mul] at t2
    have h3:81≤d*3^(j+1):=by omega
    have h4:(M+1)*3^e*3^(j+1)≤G:=by
     rw [Nat.mul_assoc,Nat.mul_comm (3^e),←hj,←pw];exact bud
    have h5:=Nat.mul_le_mul_left ((M+1)*3^e) h3
    have h6:=Nat.mul_le_mul_left d h4
    have h7:(M+1)*3^e*(d*3^(j+1))=d*((M+1)*3^e*3^(j+1)):=by
     rw [Nat.mul_left_comm]
    omega
   have h8:=Nat.mul_le_mul_left (M+1) p3
   have e5:(M+1)*(e+2)=e*M+2*M+(e+2):=by rw [Nat.add_mul,Nat.mul_add,Nat.mul_comm M e];omega
   omega
theorem depth{ch:List Rat->List Rat}(hs:ChS ch)(hc:ChX ch){Q:List Rat}(tQ:Tr Q)(hb:Bez Q (derP Q)){H:Nat}(hQ:HtP H Q)(hE:HtP (H+1) (derP Q))(lQ:Q.length≤6)(hB:(H+3)*3^Q.length≤25000)(hH:H≤400){n:Nat}(hn:Q.length<n){lo hi:Rat}(l32: -4096≤lo)(h32:hi≤4096)(hlt:lo<hi)(hd:hi-lo≤hw 1 463000):vrs ((qBf ch n Q (derP Q)).map qAb) lo-vrs ((qBf ch n Q (derP Q)).map qAb) hi≤1:=by
 have Q0:Q≠[]:=fun e=>by
  obtain ⟨u,v,h⟩:=hb
  have:=h 0
  rw [e] at this
  have e0:qAb [] 0=0:=rfl
  have e1:qAb (derP []) 0=0:=rfl
  rw [e0,e1,Rat.mul_zero,Rat.mul_zero] at this
  exact absurd this (by decide+kernel)
 have tE:Tr (derP Q):=qAl _
 have lt:(derP Q).length<Q.length:=by
  have:=qK2 (p:=Q) (by rw [qAr tQ];exact Q0)
  rwa [qAr tQ] at this
 by_cases E0:derP Q=[]
 ·obtain ⟨m,rfl⟩:∃m,n=m+1:=⟨n-1,by omega⟩
  rw [qGa ch Q0,if_pos E0]
  have hz:∀z,vrs (List.map qAb [Q]) z=0:=fun z=>by simp [vrs,sgs,chg]
  rw [hz,hz];decide
 ·have lE:=qA2 E0
  have f:=far_js hs hc (G:=25000) _ tQ tE Q0 E0 lt (hQ.mono (Nat.le_succ H)) hE (Nat.le_trans (Nat.mul_le_mul_right _ (by omega)) hB) hb (Nat.le_refl _)
  have ft:=farT_le (show (derP Q).length≤5 by omega)
  have f5:farT 5=18:=rfl
  rw [f5] at ft
  have f2:=f.mono (Nat.mul_le_mul_right 25000 ft)
  have p9:3^2≤3^Q.length:=Nat.pow_le_pow_right (by decide) (by omega)
  have h9:=Nat.mul_le_mul_left (H+3) p9
  refine one_root hs tQ hb hn f2 (H:=H+1) (fun i=>(hQ.mono (Nat.le_succ H)).ok i) (fun i=>hE.ok i) (Nat.le_of_lt lt) l32 h32 hlt (Rat.le_trans hd (qHl ?_))
  omega
theorem pow52:∀e:Nat,1≤e->(5*e+7)*2^e≤5*5^e∧5*2^e≤2*5^e∧12*2^e≤5*5^e
 |1,_=>by decide
 |e+2,_=>by
  obtain ⟨h1,h2,h3⟩:=pow52 (e+1) (by omega)
  rw [show 2^(e+2)=2^(e+1)*2 from Nat.pow_succ ..,show 5^(e+2)=5^(e+1)*5 from Nat.pow_succ ..]
  generalize 2^(e+1)=u at *
  generalize 5^(e+1)=v at *
  refine ⟨?_,by omega,by omega⟩
  have e1:(5*(e+2)+7)*(u*2)=10*(e*u)+34*u:=by grind
  have e2:(5*(e+1)+7)*u=5*(e*u)+12*u:=by grind
  omega
theorem pot_step{h l e:Nat}(he:1≤e):(2*(l+1)+5*(h+(e+1)*l+1)+5)*2^e≤(2*h+5*l+5)*5^e:=by
 obtain ⟨h1,h2,h3⟩:=pow52 e he
 have a1:=Nat.mul_le_mul_left l h1
 have a2:=Nat.mul_le_mul_left h h2
 generalize 2^e=u at *
 generalize 5^e=v at *
 have e1:(2*(l+1)+5*(h+(e+1)*l+1)+5)*u=h*(5*u)+l*((5*e+7)*u)+12*u:=by grind
 have e2:(2*h+5*l+5)*v=h*(2*v)+l*(5*v)+5*v:=by grind
 omega
theorem gcdPot{N B:Nat}:∀(n:Nat) {p q:List Rat} {h l:Nat},Tr p->Tr q->p≠[]->HtP h p->HtP l q->(q=[]->2*h≤l+1)->q.length<p.length->p.length≤N->(2*h+5*l+5)*5^p.length*2^(N-p.length)≤B->q.length≤n->∃h',HtP (h'+1) (gcdP p q)∧12*h'*5^(gcdP p q).length*2^(N-(gcdP p q).length)≤B:=by
 intro n
 induction n with
 |zero=>
  intro p q h l tp tq p0 hp hq hl1 hl hN bud hn
  have:q=[]:=List.length_eq_zero_iff.1 (by omega)
  subst this
  rw [qG3]
  refine ⟨h,hp.monic,?_⟩
  rw [show (qA7 p).length=p.length from qBd _ _]
  have:=hl1 rfl
  refine Nat.le_trans (Nat.mul_le_mul_right _ (Nat.mul_le_mul_right _ ?_)) bud
  omega
 |succ n ih=>
  intro p q h l tp tq p0 hp hq hl1 hl hN bud hn
  by_cases q0:q=[]
  ·subst q0;exact ih tp tq p0 hp hq hl1 hl hN bud (by simp)
  ·have e:=qGn tp tq q0 (a:=1/lead q) (b:=1) (qJn tq q0).1 (by decide)
   rw [qDk] at e
   rw [show gcdP p q=gcdP (qA7 q) (remP p q) from e]
   have hr:=qOf tp tq q0 hp hq
   have lr:=qC4 tp tq q0
   have hml:(qA7 q).length=q.length:=qBd _ _
   have m0:qA7 q≠[]:=fun e=>q0 (List.length_eq_zero_iff.1 (by rw [←hml,e];rfl))
   obtain ⟨d,hd⟩:∃d,p.length=q.length+d:=⟨p.length-q.length,by omega⟩
   rw [show p.length+1-q.length=d+1 by omega] at hr
   have dl:(d+1)*l=d*l+l:=by rw [Nat.add_mul,Nat.one_mul]
   refine ih (h:=l+1) (l:=h+(d+1)*l+1) (qEv tq) (qEl tp tq q0) m0 hq.monic (hr.mono (by omega)) ?_ (by rw [hml];exact lr) (by rw [hml];omega) ?_ (by omega)
   ·intro _
    have h2:=Nat.mul_le_mul_right l (show 1≤d by omega)
    omega
   ·rw [hml]
    have st:=pot_step (h:=h) (l:=l) (e:=d) (by omega)
    have e5:5^p.length=5^d*5^q.length:=by rw [hd,Nat.add_comm,Nat.pow_add]
    have e2:2^(N-q.length)=2^d*2^(N-p.length):=by rw [←Nat.pow_add];congr 1;omega
    rw [e5] at bud
    rw [e2]
    refine Nat.le_trans ?_ bud
    generalize 5^q.length=f at *
    generalize 2^(N-p.length)=g at *
    have s1:=Nat.mul_le_mul_right (f*g) st
    generalize (2*(l+1)+5*(h+(d+1)*l+1)+5)=x at *
    generalize (2*h+5*l+5)=y at *
    generalize 2^d=u at *
    generalize 5^d=v at *
    have x1:x*f*(u*g)=x*u*(f*g):=by grind
    have x2:y*(v*f)*g=y*v*(f*g):=by grind
    omega
inductive Iso (C:Rat->Rat->Int):I2->List I2->Prop
 |zero {x:I2} (h:C x.1 x.2=0):Iso C x []
 |one {x:I2} (h:C x.1 x.2=1):Iso C x [x]
 |two {x:I2} {l m:List I2} (h0:C x.1 x.2≠0) (h1:C x.1 x.2≠1) (hl:Iso C (x.1,mid2 x) l) (hm:Iso C (mid2 x,x.2) m):Iso C x (l++m)
structure Cnt (C:Rat->Rat->Int):Prop where
 none:∀a b,¬a<b->C a b=0
 nonneg:∀a b,a<b->0≤C a b
 add:∀a m b,a<m->m<b->C a m+C m b=C a b
theorem Iso.len{C:Rat->Rat->Int}(hC:Cnt C){x:I2}{l:List I2}(h:Iso C x l):(l.length:Int)=C x.1 x.2:=by
 induction h with
 |zero h=>exact h.symm
 |one h=>exact h.symm
 |two h0 h1 _ _ i1 i2=>
  rename_i x l m _ _
  have hlt:x.1<x.2:=Classical.byContradiction fun e=>h0 (hC.none _ _ e)
  obtain ⟨m1,m2⟩:=(mid_bd (Rat.le_of_lt hlt)).2.2 hlt
  have:=hC.add _ _ _ m1 m2
  rw [List.length_append]
  dsimp only at i1 i2
  omega
theorem Iso.parts{C:Rat->Rat->Int}(hC:Cnt C){x:I2}{l:List I2}(h:Iso C x l):(∀y∈l,x.1≤y.1∧y.1<y.2∧y.2≤x.2∧C y.1 y.2=1)∧l.Pairwise (fun a b=>a.2≤b.1):=by
 induction h with
 |zero h=>exact ⟨fun y hy=>by simp at hy,List.Pairwise.nil⟩
 |one h=>
  rename_i x
  refine ⟨fun y hy=>?_,by simp⟩
  rw [List.mem_singleton.1 hy]
  have hlt:x.1<x.2:=Classical.byContradiction fun e=>by rw [hC.none _ _ e] at h;cases h
  exact ⟨Rat.le_refl,hlt,Rat.le_refl,h⟩
 |two h0 h1 _ _ i1 i2=>
  rename_i x l m _ _
  have hlt:x.1<x.2:=Classical.byContradiction fun e=>h0 (hC.none _ _ e)
  obtain ⟨m1,m2⟩:=(mid_bd (Rat.le_of_lt hlt)).2.2 hlt
  obtain ⟨a1,a2⟩:=i1
  obtain ⟨b1,b2⟩:=i2
  refine ⟨fun y hy=>?_,List.pairwise_append.2 ⟨a2,b2,fun u hu v hv=>?_⟩⟩
  ·rcases List.mem_append.1 hy with hy|hy
   ·obtain ⟨c1,c2,c3,c4⟩:=a1 y hy
    exact ⟨c1,c2,Rat.le_trans c3 (Rat.le_of_lt m2),c4⟩
   ·obtain ⟨c1,c2,c3,c4⟩:=b1 y hy
    exact ⟨Rat.le_trans (Rat.le_of_lt m1) c1,c2,c3,c4⟩
  ·exact Rat.le_trans (a1 u hu).2.2.1 (b1 v hv).1
theorem half_w{x:I2}{w:Rat}(h:x.1≤x.2)(hw:x.2-x.1≤w):mid2 x-x.1≤w/2∧x.2-mid2 x≤w/2:=by
 have e1:=qR5 (x.1+x.2)
 have e2:=qR5 w
 unfold mid2
 generalize (x.1+x.2)/2=m at *
 generalize w/2=d at *
 constructor<;>grind
end Go.Vw
set_option linter.unusedSectionVars false
namespace Go.Vw
open Go.RowKit
def qGu(o:Oper):Bool:=match o.op with| .call _=>true|_=>false
def qE4(all:Array Oper)(a b:Oper):Bool:=qFa all b a.dst||qFa all a b.dst||(match a.dst,b.dst with|some x,some y=>x==y|_,_=>false)||(qGu a&&qGu b)
def ordAC(ops:Array Oper)(n:Nat):Bool:=
 qIc ops&&Nat.ble n ops.size&&
 ((List.range n).all fun j=>match ops[j]? with
  |some b=>(List.range j).all fun i=>match ops[i]? with
   |some a=> !(qE4 ops a b)||((qFw ops.toList []).getD j 0).testBit i
   |none=>false
  |none=>false)&&
 ((List.range ops.size).all fun i=>Nat.blt i n||Nat.beq ((qFw ops.toList []).getD i 0) (2^i-1))&&
 ((List.range n).all fun j=>match ops[j]? with
  |some b=>qGu b||(List.range n).all fun i=>match ops[i]? with|some a=> !(qGu a)|| !(qFa ops b a.dst)|none=>false
  |none=>false)
structure OrdAC (ops:Array Oper) (n:Nat):Prop where
 tf:TailFacts ops n
 ord:∀i j a b,i<j->j<n->ops[i]? =some a->ops[j]? =some b->qE4 ops a b=true->((qFw ops.toList []).getD j 0).testBit i=true
 reg:∀i j a b,i<n->j<n->ops[i]? =some a->ops[j]? =some b->qGu a=true->qGu b=false->qFa ops b a.dst=false
theorem ordA_specC{ops:Array Oper}{n:Nat}(h:ordAC ops n=true):OrdAC ops n:=by
  simp only [ordAC,Bool.and_eq_true] at h
  obtain ⟨⟨⟨⟨hb,hle⟩,hm⟩,ht⟩,hr⟩:=h
  refine ⟨⟨fun i o hi e he hbind=>?_,Nat.le_of_ble_eq_true hle,fun i h1 h2 j hj=>?_⟩,fun i j a b hij hj ha hb' hc=>?_,fun i j a b hi hj ha hb' h1 h2=>?_⟩
  · simp only [qIc,List.all_eq_true,List.mem_range] at hb
    have:=hb i (Array.getElem?_eq_some_iff.1 hi).1
    rw [hi] at this
    simp only [List.all_eq_true] at this
    have:=this e (by simpa using he)
    rw [hbind] at this
    simpa [Nat.blt_eq] using this
  · simp only [List.all_eq_true,List.mem_range] at ht
    have h3:=ht i h2
    have hnb:Nat.blt i n=false:=by
      cases hq:Nat.blt i n with
      |false=>rfl
      |true=>have:i<n:=by simpa [Nat.blt_eq] using hq
             omega
    rw [hnb,Bool.false_or] at h3
    have h4:=Nat.eq_of_beq_eq_true h3
    rw [h4,Nat.testBit_two_pow_sub_one]
    simpa using hj
  · simp only [List.all_eq_true,List.mem_range] at hm
    have h1:=hm j hj
    rw [hb'] at h1
    simp only [List.all_eq_true,List.mem_range] at h1
    have h2:=h1 i hij
    rw [ha] at h2
    simp only [hc,Bool.not_true,Bool.false_or] at h2
    exact h2
  · simp only [List.all_eq_true,List.mem_range] at hr
    have h3:=hr j hj
    rw [hb'] at h3
    simp only [h2,Bool.false_or,List.all_eq_true,List.mem_range] at h3
    have h4:=h3 i hi
    rw [ha] at h4
    simpa only [h1,Bool.not_true,Bool.false_or,Bool.not_eq_true'] using h4
inductive PRunAC (X:Ctx) (all:Array Oper) (ks:List Nat):List Oper->St->St->Prop
 |nil {s:St}:PRunAC X all ks [] s s
 |reg {o:Oper} {rest:List Oper} {s s':St} {x:V} (hd:qB5 X.N o.dst=true) (h:∀s':St,(∀t∈o.looksAt all,s'.tmps t=s.tmps t)->M1 X all s' o x) (hna:qGu o=false) (hx:(ks.all fun k=>x.noKey k)=true) (k:PRunAC X all ks rest (s.put o.dst x) s'):PRunAC X all ks (o::rest) s s'
 |app {o:Oper} {rest:List Oper} {s s':St} {d:Tmp} {x:V} {k:Nat} {b:Blk} (ha:qGu o=true) (hd:o.dst=some d) (hk:ks.contains k=true) (h:∀s':St,s'.blk=s.blk->(∀t∈o.looksAt all,s'.tmps t=s.tmps t)->E1 X all s' o ((s'.new k b).put (some d) x)) (kk:PRunAC X all ks rest ((s.new k b).put (some d) x) s'):PRunAC X all ks (o::rest) s s'
inductive UpdOkAC (X:Ctx) (all:Array Oper) (ks:List Nat) (s:St) (o:Oper):UpdA->Prop
 |reg {x:V} (hd:qB5 X.N o.dst=true) (h:∀s':St,(∀t∈o.looksAt all,s'.tmps t=s.tmps t)->M1 X all s' o x) (hna:qGu o=false) (hx:(ks.all fun k=>x.noKey k)=true):UpdOkAC X all ks s o (.reg o.dst x)
 |app {d:Tmp} {x:V} {k:Nat} {b:Blk} (ha:qGu o=true) (hd:o.dst=some d) (hk:ks.contains k=true) (h:∀s':St,s'.blk=s.blk->(∀t∈o.looksAt all,s'.tmps t=s.tmps t)->E1 X all s' o ((s'.new k b).put (some d) x)):UpdOkAC X all ks s o (.app d x k b)
theorem prunA_usC{X:Ctx}{all:Array Oper}{ks:List Nat}:∀{l:List Oper} {s s':St},PRunAC X all ks l s s'->∃us:Nat->UpdA,s'=accA s us (fun _=>true) l.length∧∀i o,l[i]? =some o->UpdOkAC X all ks (accA s us (fun _=>true) i) o (us i)
 |[],s,s',h=>by
  cases h
  exact ⟨fun _=>.reg none (.d .undef),rfl,fun i o h=>by simp at h⟩
 |o::rest,s,s',h=>by
  have shift:∀(u0:UpdA) (us:Nat->UpdA) (m:Nat) (s0:St),accA s0 (fun i=>match i with|0=>u0|i+1=>us i) (fun _=>true) (m+1)=accA (apA s0 u0) us (fun _=>true) m:=fun u0 us m s0=>by
   induction m with
   |zero=>rfl
   |succ m ih=>rw [accA,ih];rfl
  have fin:∀(u0:UpdA),UpdOkAC X all ks s o u0->PRunAC X all ks rest (apA s u0) s'->∃us:Nat->UpdA,s'=accA s us (fun _=>true) (o::rest).length∧∀i o',(o::rest)[i]? =some o'->UpdOkAC X all ks (accA s us (fun _=>true) i) o' (us i):=fun u0 h0 hk=>by
   obtain ⟨us,h1,h2⟩:=prunA_usC hk
   refine ⟨fun i=>match i with|0=>u0|i+1=>us i,?_,fun i o' hi=>?_⟩
   ·rw [List.length_cons,shift,h1]
   ·cases i with
    |zero=>simp at hi;subst hi;exact h0
    |succ i=>rw [shift];exact h2 i o' (by simpa using hi)
  cases h with
  |reg hd hm hna hx hk=>exact fin _ (.reg hd hm hna hx) hk
  |app ha hd hk hm kk=>exact fin _ (.app ha hd hk hm) kk
theorem qSp{X:Ctx}(hm:X.P.follows .mixedOrders=true){id:Nat}{ops:List Oper}(n:Nat)(ks:List Nat)(hok:ordAC ops.toArray n=true){Q:Exit->St->Prop}{sx s1:St}(hKs:(ks.all fun k=> !(X.K.contains k))=true)(hdf:sx.dfs=[])(hrun:PRunAC X ops.toArray ks (ops.take n) (sx.kills ks) s1)(htail:awpL X ops.toArray (ops.drop n) Q s1):awp X (.region id ops.toArray true) Q sx:=by
  have hf:=ordA_specC hok
  have hfree:=FreeSt.kills (s:=sx) ks
  have hdf2:(sx.kills ks).dfs=[]:=by
    clear hrun hfree hKs
    induction ks with
    |nil=>exact hdf
    |cons k r ih=>
      show qNz k none (sx.kills r).dfs=[]
      rw [ih];rfl
  have main:awp X (.region id ops.toArray true) Q (sx.kills ks):=by
    generalize sx.kills ks=s at hfree hrun hdf2
    obtain ⟨us,hs1,hx⟩:=prunA_usC hrun
    have hle:=hf.tf.le
    have hsz:ops.toArray.size=ops.length:=rfl
    have getop:∀i,i<n->(ops.take n)[i]? =ops.toArray[i]? :=fun i hi=>by simp [List.getElem?_take,hi]
    have hlen:(ops.take n).length=n:=by simp;omega
    rw [hlen] at hs1
    have ok:∀i o,i<n->ops.toArray[i]? =some o->UpdOkAC X ops.toArray ks (accA s us (fun _=>true) i) o (us i):=fun i o hi ho=>hx i o (by rw [getop i hi];exact ho)
    have getn:∀j,j<n->∃o,ops.toArray[j]? =some o:=fun j hj=>⟨_,Array.getElem?_eq_getElem (by omega)⟩
    have dstOf:∀i o,i<n->ops.toArray[i]? =some o->(us i).dst=o.dst∧(us i).isApp=qGu o:=fun i o hi ho=>by
      have:=ok i o hi ho
      generalize us i=u at this
      cases this with
      |reg _ _ hna=>exact ⟨rfl,hna.symm⟩
      |app ha hd=>exact ⟨hd.symm,ha.symm⟩
    have regx:∀i,i<n->∀d x,us i= .reg d x->∀k∈ks,x.noKey k=true:=fun i hi d x hu k hk=>by
      obtain ⟨o,ho⟩:=getn i hi
      have:=ok i o hi ho
      rw [hu] at this
      cases this with
      |reg _ _ _ hx=>rw [List.all_eq_true] at hx;exact hx k hk
    have appk:∀i,i<n->∀d x k b,us i= .app d x k b->k∈ks:=fun i hi d x k b hu=>by
      obtain ⟨o,ho⟩:=getn i hi
      have:=ok i o hi ho
      rw [hu] at this
      cases this with
      |app _ _ hk=>simpa [List.contains_eq_mem] using hk
    have full:∀i,i≤n->accA s us (fun _=>true) i=accA s us (fun j=>decide (j<i)) n:=fun i hi=>by
      have h1:accA s us (fun _=>true) i=accA s us (fun j=>decide (j<i)) i:=qGb i fun j hj=>by simp [hj]
      have h2:∀m,i≤m->m≤n->accA s us (fun j=>decide (j<i)) m=accA s us (fun j=>decide (j<i)) i:=by
        intro m
        induction m with
        |zero=>intro h1 _;obtain rfl:i=0:=by omega
               rfl
        |succ m ih=>
          intro h1 h2
          by_cases e:i=m+1
          · rw [e]
          · simp only [accA];rw [ih (by omega) (by omega)];simp [show ¬m<i by omega]
      rw [h1,h2 n hi (Nat.le_refl _)]
    refine qIk hm n hf.tf (fun L=>accA s us L n) (s1:=s1) ?_ (fun L h1 h2=>?_) (fun L i o hi ho hLi hLn hLp hLc=>?_) htail
    · have:∀m,accA s us (fun _=>false) m=s:=by
        intro m
        induction m with
        |zero=>rfl
        |succ m ih=>simp only [accA,cond_false];exact ih
      exact this n
    · rw [hs1]
      exact qGb n fun j hj=>h1 j hj
    · have diff:∀j b,j<n->ops.toArray[j]? =some b->qE4 ops.toArray b o=true∨qE4 ops.toArray o b=true->L j=decide (j<i):=fun j b hj hb hc=>by
        have sym:qE4 ops.toArray b o=true∧qE4 ops.toArray o b=true:=by
          have:qE4 ops.toArray b o=qE4 ops.toArray o b:=by
            unfold qE4
            rw [Bool.or_comm (qFa ops.toArray o b.dst),Bool.and_comm (qGu b)]
            congr 1
            congr 1
            cases b.dst<;>cases o.dst<;>simp [Bool.beq_comm,eq_comm]
          rw [this] at hc ⊢
          simpa using hc
        rcases Nat.lt_trichotomy j i with h|h|h
        · rw [decide_eq_true h];exact hLp j h (hf.ord j i b o h hi hb ho sym.1)
        · subst h;rw [hLi,decide_eq_false (by omega)]
        · rw [decide_eq_false (by omega)]
          cases hL:L j with
          |false=>rfl
          |true=>
            have:=hLc j hL i (hf.ord i j o b h hj ho hb sym.2)
            rw [hLi] at this;cases this
      have hins:accA s us (insL L i) n=apA (accA s us L n) (us i):=qJ1 hLi n hi fun j hij hjn hLj s0=>by
        obtain ⟨b,hb⟩:=getn j hjn
        have hnc:qE4 ops.toArray o b=false:=by
          cases hc:qE4 ops.toArray o b with
          |false=>rfl
          |true=>
            have:=hLc j hLj i (hf.ord i j o b hij hjn ho hb hc)
            rw [hLi] at this;cases this
        simp only [qE4,Bool.or_eq_false_iff] at hnc
        obtain ⟨⟨_,h3⟩,h4⟩:=hnc
        have hd:∀t,(us i).dst=some t->(us j).dst≠some t:=fun t e1 e2=>by
          rw [(dstOf i o hi ho).1] at e1
          rw [(dstOf j b hjn hb).1] at e2
          rw [e1,e2] at h3
          simp at h3
        have hap:¬((us i).isApp=true∧(us j).isApp=true):=fun ⟨e1,e2⟩=>by
          rw [(dstOf i o hi ho).2] at e1
          rw [(dstOf j b hjn hb).2] at e2
          rw [e1,e2] at h4;cases h4
        cases hui:us i with
        |reg d x=>
          rw [hui] at hd
          cases huj:us j with
          |reg d' x'=>rw [huj] at hd;simp only [apA];exact qGz hd
          |app d' x' k' b'=>
            rw [huj] at hd
            simp only [apA]
            rw [qOr (regx i hi d x hui k' (appk j hjn d' x' k' b' huj))]
            exact qGz (d:=d) (d':=some d') hd
        |app d x k' b'=>
          rw [hui] at hd hap
          cases huj:us j with
          |reg d' x'=>
            rw [huj] at hd
            simp only [apA]
            rw [qOr (regx j hjn d' x' huj k' (appk i hi d x k' b' hui))]
            exact qGz (d:=some d) (d':=d') hd
          |app d' x' k'' b''=>rw [huj] at hap;exact absurd ⟨rfl,rfl⟩ hap
      show E1 X ops.toArray (accA s us L n) o (accA s us (insL L i) n)
      rw [hins]
      have hoki:=ok i o hi ho
      cases hui:us i with
      |reg d x=>
        rw [hui] at hoki
        cases hoki with
        |reg hd h hna hxx=>
          refine (h (accA s us L n) fun t ht=>?_).e1 hd
          rw [full i (by omega)]
          refine (accA_reg (ks:=ks) (fun k hk=>(hfree k hk).tm t) n (fun j hj hu=>?_) regx appk).1
          obtain ⟨b,hb⟩:=getn j hj
          have hbd:b.dst=some t:=by rw [←(dstOf j b hj hb).1];exact hu
          refine ⟨diff j b hj hb (.inl (by simp [qE4,hbd,qFl ht])),?_⟩
          rw [(dstOf j b hj hb).2]
          cases hab:qGu b with
          |false=>rfl
          |true=>
            have:=hf.reg j i b o hj hi hb ho hab hna
            rw [hbd,qFl ht] at this;cases this
      |app d x k b=>
        rw [hui] at hoki
        cases hoki with
        |app ha hd hk h=>
          have happ:∀j,j<n->(us j).isApp=true->L j=decide (j<i):=fun j hj hu=>by
            obtain ⟨b',hb'⟩:=getn j hj
            exact diff j b' hj hb' (.inl (by simp [qE4,ha,←(dstOf j b' hj hb').2,hu]))
          refine h (accA s us L n) ?_ fun t ht=>?_
          · rw [full i (by omega)]
            exact qQo n happ
          · rw [full i (by omega)]
            refine qQp n (fun j hj hu=>?_) happ
            obtain ⟨b',hb'⟩:=getn j hj
            have hbd:b'.dst=some t:=by rw [←(dstOf j b' hj hb').1];exact hu
            exact diff j b' hj hb' (.inl (by simp [qE4,hbd,qFl ht]))
  intro io F a w hs
  obtain ⟨io',hs'⟩:=SR.kills ks io (fun k hk=>by
    simp only [List.all_eq_true] at hKs
    have:=hKs k hk
    simpa [List.contains_eq_mem] using this) hs
  exact main io' F a w hs'
def qKb(ks:List Nat)(X:Ctx)(all:Array Oper)(pre rest:List Oper)(Q:Exit->St->Prop)(s:St):Prop:=∃s1,PRunAC X all ks pre s s1∧awpL X all rest Q s1
section
variable {X:Ctx} {all:Array Oper} {Q:Exit->St->Prop} {s:St} {o:Oper} {pre rest:List Oper} {ks:List Nat}
theorem awpA_nilC(h:awpL X all rest Q s):qKb ks X all [] rest Q s:=⟨s,.nil,h⟩
theorem stepAQC{d:Tmp}{C:Prop}{x:V}(m:Bool)(hk:Nat.beq (opK o.op) 0=true)(hg:gd all s o=some true)(hdst:o.dst=some d)(hd:qB5 X.N (some d)=true)(hq:qP5 X.T m s o.op=some (C,x))(hC:C)(hfr:freeOp s o=true)(hna:qGu o=false)(hf:(ks.all fun k=>x.noKey k)=true)(k:qKb ks X all pre rest Q (s.put (some d) x)):qKb ks X all (o::pre) rest Q s:=by
 rw [←hdst] at hd k
 obtain ⟨s1,h1,h2⟩:=k
 refine ⟨s1,.reg hd (fun s' hs'=>m_q m ((qC3 hs').trans hg) ?_ hC) hna hf h1,h2⟩
 rw [qGe] at hq ⊢
 unfold freeOp at hfr
 rw [Bool.or_eq_true,Bool.or_eq_true] at hfr
 rcases hfr with (hfr|hfr)|hfr
 ·rw [qI6 hfr hs'];exact hq
 ·rw [qJs hfr hs'];exact hq
 ·rw [Bool.and_eq_true] at hfr
  refine qLn hfr.1 hq hs' fun k b hkey _=>?_
  rw [hkey] at hfr
  cases hfr.2
def isBd(o:Oper):Bool:=match o.op with| .build .. =>true|_=>false
theorem evalQ_bd{T:TypeId->Option TyD}{m:Bool}{s':St}(hm:isBd o=true)(h:∀t∈o.looksAt all,s'.tmps t=s.tmps t):qFy T m s' o.op=qFy T m s o.op:=by
 have hop:=fun y hy=>qCc (s:=s) (s':=s') (o:=o) (all:=all) (y:=y) hy h
 unfold isBd at hm
 split at hm
 ·rename_i t parts e
  rw [e] at hop ⊢
  have e1:(parts.toList.map fun p=>(p.1,s'.opd p.2))=parts.toList.map fun p=>(p.1,s.opd p.2):=List.map_congr_left fun p hp=>by
   rw [hop p.2 (by simp only [Op.operands];simp;exact ⟨p.1,by simpa using hp⟩)]
  simp only [qFy,e1]
 ·cases hm
theorem stepABd{d:Tmp}{C:Prop}{x:V}(m:Bool)(hk:Nat.beq (opK o.op) 0=true)(hg:gd all s o=some true)(hdst:o.dst=some d)(hd:qB5 X.N (some d)=true)(hq:qP5 X.T m s o.op=some (C,x))(hC:C)(hfr:isBd o=true)(hna:qGu o=false)(hf:(ks.all fun k=>x.noKey k)=true)(k:qKb ks X all pre rest Q (s.put (some d) x)):qKb ks X all (o::pre) rest Q s:=by
 rw [←hdst] at hd k
 obtain ⟨s1,h1,h2⟩:=k
 refine ⟨s1,.reg hd (fun s' hs'=>m_q m ((qC3 hs').trans hg) ?_ hC) hna hf h1,h2⟩
 rw [qGe] at hq ⊢
 rw [evalQ_bd hfr hs'];exact hq
theorem qTv:∀ds:List D,V.refsL (ds.map V.d)=[]
 |[]=>by simp [V.refsL]
 |d::ds=>by
  have ih:=qTv ds
  simp only [List.map_cons,V.refsL,V.refs,ih]
  rfl
theorem new_over{s:St}{k:Nat}{b:Blk}:(s.subs [k]).over [(k,b)]=s.new k b:=by
 refine St.eta (funext fun t=>rfl) (funext fun j=>?_) rfl
 show (match qAh [(k,b)] j with|some b=>some b|none=>(s.sub k none).blk j)=(bif Nat.beq j k then some b else (s.sub k none).blk j)
 simp only [qAh]
 cases Nat.beq j k<;>rfl
theorem clAC{c:Call}{caps:List V}{ds ds':List D}{d:Tmp}{k:Nat}{b:Blk}{y:V}(f:FuncId)(hr:RetB X.P f (ds'.map V.d) (qAh []) y (qAh [(k,b)]))(hop:o.op= .call c)(hc:qCj s c=some (f,caps))(hdst:o.dst=some d)(hg:gd all s o=some true)(hd:qB5 X.N (some d)=true)(ha:allD (c.args.toList.map s.opd++caps)=some ds)(hks:ks.contains k=true)(hK:X.K.contains k=false)(le:LeVT (ds.map V.d) (ds'.map V.d))(r:qKb ks X all pre rest Q ((s.new k b).put (some d) y)):qKb ks X all (o::pre) rest Q s:=by
 have hx:c.args.toList.map s.opd++caps=ds.map V.d:=qJ0 ha
 obtain ⟨s1,h1,h2⟩:=r
 refine ⟨s1,.app (by unfold qGu;rw [hop]) hdst hks (fun s' hb' htm=>?_) h1,h2⟩
 obtain ⟨e1,e2⟩:=qPt (s:=s) hop htm
 have h:=e_callB (X:=X) (all:=all) (s:=s') (o:=o) [k] ((qC3 htm).trans hg) (by rw [hdst];exact hd) hop (e1.trans hc) (xs:=ds'.map V.d) (by rw [e2,hx];exact le) hr (fun k b h=>by cases h) (fun k hk=>?_) (fun k b h=>by cases h) (fun j hj=>?_) (fun j hj=>?_)
 ·rw [new_over,hdst] at h
  exact h
 ·exfalso
  have:V.refsL (ds'.map V.d)=[]:=qTv ds'
  rw [this] at hk
  cases hk
 ·right
  simp only [qAh] at hj
  cases hb:Nat.beq j k with
  |true=>rw [Nat.eq_of_beq_eq_true hb];exact List.mem_singleton.2 rfl
  |false=>rw [hb] at hj;exact absurd rfl hj
 ·rw [List.mem_singleton.1 hj]
  exact ⟨by simpa [List.contains_eq_mem] using hK,rfl⟩
theorem goAC{G:Prop}{ops:List Oper}(k:G)(h:G->qKb ks X all ops rest Q s:=by
 first
 |exact Go.Vw.stepAQC true Go.Vw.tt Go.Vw.stt rfl rfl rfl Go.Vw.sc rfl rfl rfl
 |exact Go.Vw.awpA_nilC
 |exact Go.Vw.stepABd true Go.Vw.tt Go.Vw.stt rfl rfl rfl Go.Vw.sc rfl rfl rfl
 |exact Go.Vw.stepAQC false Go.Vw.tt Go.Vw.stt rfl rfl rfl Go.Vw.sc rfl rfl rfl
 |fail):qKb ks X all ops rest Q s:=h k
theorem awp_regAC(id n:Nat)(ks:List Nat){ops:List Oper}(h:qKb ks X ops.toArray (ops.take n) (ops.drop n) Q (s.kills ks))(hm:X.P.follows .mixedOrders=true)(hok:ordAC ops.toArray n=true)(hK:(ks.all fun k=> !(X.K.contains k))=true)(hdf:s.dfs=[]):awp X (.region id ops.toArray true) Q s:=by
 obtain ⟨s1,h1,h2⟩:=h
 exact qSp hm n ks hok hK hdf h1 h2
end
end Go.Vw
namespace Go.Proofs.YtejigedigmagdaaGreat
open Go.Vw
attribute [local irreducible] awp awpL awpR qKb
@[reducible] def qiC (i:I2):List D:=iC (rq i.1) (rq i.2)
@[reducible] def isD (l:List I2):D:=.sl 6 qiC (0,0) l
@[reducible] def iO (k n:Nat):V:=.own k 0 n 32 6
@[reducible] def iB (l:List I2):Blk:=.data 32 6 qiC (0,0) l
structure Deep (C:Rat->Rat->Int) (N:Nat):Prop extends Cnt C where
 few:∀a b,C a b≤100
 deep:∀a b, -4096≤a->b≤4096->a<b->b-a≤hw 1 N->C a b≤1
theorem isolate_0{p:List Rat}(X:I2)(ct:Ret Tryz.prog 188 [qssD (ctr (qAd p)),qD X.1,qD X.2] (·= .int .i64 0)):RetB Tryz.prog 154 [.d (qssD (ctr (qAd p))),.d (iQ X)] (qAh []) (iO 500 0) (qAh [(500,iB [])]):=by
 generalize ctr (qAd p)=F at *
 refine qBa tab [] Tryz.func154 rfl rfl rfl (lblz rfl) rfl trivial (fun w0 F0 A io0=>?_)
 repeat' (first|refine qSw 3 tt ?_|refine wG ?_|refine wC ct ?_|refine rg 7 11 ?_|refine wS ?_ ?_<;>intro _|refine wB ?_ ?_)
 refine qId ?_
 refine awp_seq ?_
 refine awp_region ?_
 refine goL ?_
 refine goL ?_
 refine goN ?_
 refine qB3 4 500 32 6 qiC (0,0) rfl ?_
 repeat' (first|refine wG ?_|refine rg 7 11 ?_|refine wS ?_ ?_<;>intro _|refine wB ?_ ?_)
 all_goals first|exact leVT|exact ⟨rfl,trivial⟩
theorem qRy{p:List Rat}(X:I2)(hX:X.1≤X.2)(oX:okI 150000 X)(ct:Ret Tryz.prog 188 [qssD (ctr (qAd p)),qD X.1,qD X.2] (·= .int .i64 1)):RetB Tryz.prog 154 [.d (qssD (ctr (qAd p))),.d (iQ X)] (qAh []) (iO 19 1) (qAh [(19,iB [X])]):=by
 have hu:=qIg X oX hX
 generalize ctr (qAd p)=F at *
 clear oX hX
 refine qBa tab [] Tryz.func154 rfl rfl rfl (lblz rfl) rfl trivial (fun w0 F0 A io0=>?_)
 repeat' (first|refine stepLitO (d:=19) (en:=qiC) (z:=(0,0)) rfl rfl rfl rfl rfl (LeR.cons rfl leL LeR.nil) ?_|refine wG ?_|refine wC ct ?_|refine wC hu ?_|refine rg 7 11 ?_|refine wS ?_ ?_<;>intro _|refine wB ?_ ?_)
 all_goals first|exact leVT|exact ⟨rfl,trivial⟩
theorem isolate_2{p:List Rat}(X:I2)(hX:X.1≤X.2)(oX:okI 150000 X)(c:Int)(c0:c≠0)(c1:c≠1)(ct:Ret Tryz.prog 188 [qssD (ctr (qAd p)),qD X.1,qD X.2] (·= .int .i64 c))(l m:List I2)(hl:l.length≤1000)(hm:m.length≤1000)(h1:RetB Tryz.prog 154 [.d (qssD (ctr (qAd p))),.d (iQ (X.1,mid2 X))] (qAh []) (iO 27 l.length) (qAh [(27,iB l)]))(h2:RetB Tryz.prog 154 [.d (qssD (ctr (qAd p))),.d (iQ (mid2 X,X.2))] (qAh []) (iO 33 m.length) (qAh [(33,iB m)])):RetB Tryz.prog 154 [.d (qssD (ctr (qAd p))),.d (iQ X)] (qAh []) (iO 27 (l++m).length) (qAh [(27,iB (l++m))]):=by
 have md:=qFp X oX hX
 generalize ctr (qAd p)=F at *
 generalize mid2 X=z at *
 have r2:RetB Tryz.prog 154 [.d (qssD F),.d (iQ (z,X.2))] (qAh []) (iO 33 m.length) (qAh [(33,iB m)]):=h2
 clear oX hX
 refine qBa tab [] Tryz.func154 rfl rfl rfl (lblz rfl) rfl trivial (fun w0 F0 A io0=>?_)
 repeat' (first|refine qSw 7 tt ?_|refine wG ?_|refine wC ct ?_|refine wC md ?_|refine rg 7 11 ?_|refine wS ?_ ?_<;>intro _|refine wB ?_ ?_)
 refine qId ?_
 refine awp_seq ?_
 refine awp_frz 3 rfl ?_
 refine awp_frz 5 rfl ?_
 refine awp_regAC 7 11 [27] ?_ mixed (by kernel_rfl) rfl rfl
 refine goAC ?_
 refine goAC ?_
 refine goAC ?_
 refine goAC ?_
 refine goAC ?_
 refine clAC (ds':=[qssD F,iQ (X.1,z)]) 154 h1 rfl rfl rfl rfl rfl rfl rfl rfl leVT ?_
 refine goAC ?_
 refine goAC ?_
 refine goAC ?_
 refine goAC ?_
 refine goAC ?_
 refine goAC ?_
 repeat' (first|refine wG ?_|refine wD [33] r2 ?_|refine rg 7 11 ?_|refine wS ?_ ?_<;>intro _|refine wB ?_ ?_)
 all_goals first|exact leVT|exact ⟨rfl,trivial⟩|exact qBr rfl
theorem isolate_B{p:List Rat}(hp:PolOk p)(p0:qAd p≠[]){N:Nat}(hN:N≤4300000)(hC:Deep (cfn p) N){D M:Nat}(D0:D≠0)(hD:D<4294967296*4294967296)(hM:M<4294967296*4294967296*4294967296):∀(n j:Nat) (X:I2),j+n=13+N->Dy D M j X.1->Dy D M j X.2-> -4096≤X.1->X.2≤4096->X.1≤X.2->X.2-X.1≤hw 8192 j->∃l:List I2,Iso (cfn p) X l∧(∀y∈l,∃i,i≤13+N∧Dy D M i y.1∧Dy D M i y.2)∧RetB Tryz.prog 154 [.d (qssD (ctr (qAd p))),.d (iQ X)] (qAh []) (iO 500 l.length) (qAh [(500,iB l)]):=by
 intro n
 induction n with
 |zero=>
  intro j X hj d1 d2 a1 a2 hX hw1
  have oX:okI 150000 X:=⟨(d1.ok D0 hD hM).mono (by omega),(d2.ok D0 hD hM).mono (by omega)⟩
  have ct:=countV hp p0 X.1 X.2 oX.1 oX.2
  by_cases c0:cfn p X.1 X.2=0
  ·rw [show cntF (ctr (qAd p)) X.1 X.2=0 from c0] at ct
   exact ⟨[],.zero c0,fun y hy=>by simp at hy,isolate_0 X ct⟩
  ·have hlt:X.1<X.2:=Classical.byContradiction fun e=>c0 (hC.none _ _ e)
   have e64:hw 8192 13=1:=by decide+kernel
   have hj2:j=13+N:=by omega
   rw [hj2,←hw_add,e64] at hw1
   have h1:=hC.deep _ _ a1 a2 hlt hw1
   have h2:=hC.nonneg _ _ hlt
   have c1:cfn p X.1 X.2=1:=by omega
   rw [show cntF (ctr (qAd p)) X.1 X.2=1 from c1] at ct
   exact ⟨[X],.one c1,fun y hy=>by rw [List.mem_singleton.1 hy];exact ⟨j,by omega,d1,d2⟩,(qRy X hX oX ct).ren [(19,500)]⟩
 |succ n ih=>
  intro j X hj d1 d2 a1 a2 hX hw1
  have oX:okI 150000 X:=⟨(d1.ok D0 hD hM).mono (by omega),(d2.ok D0 hD hM).mono (by omega)⟩
  have ct:=countV hp p0 X.1 X.2 oX.1 oX.2
  by_cases c0:cfn p X.1 X.2=0
  ·rw [show cntF (ctr (qAd p)) X.1 X.2=0 from c0] at ct
   exact ⟨[],.zero c0,fun y hy=>by simp at hy,isolate_0 X ct⟩
  ·by_cases c1:cfn p X.1 X.2=1
   ·rw [show cntF (ctr (qAd p)) X.1 X.2=1 from c1] at ct
    exact ⟨[X],.one c1,fun y hy=>by rw [List.mem_singleton.1 hy];exact ⟨j,by omega,d1,d2⟩,(qRy X hX oX ct).ren [(19,500)]⟩
   ·obtain ⟨m1,m2,_⟩:=mid_bd hX
    obtain ⟨w1,w2⟩:=half_w hX hw1
    obtain ⟨l,l1,lo,l2⟩:=ih (j+1) (X.1,mid2 X) (by omega) d1.next (d1.mid D0 d2) a1 (Rat.le_trans m2 a2) m1 w1
    obtain ⟨m,k1,mo,k2⟩:=ih (j+1) (mid2 X,X.2) (by omega) (d1.mid D0 d2) d2.next (Rat.le_trans a1 m1) a2 m2 w2
    have le1:=l1.len hC.toCnt
    have le2:=k1.len hC.toCnt
    have f1:=hC.few (X.1,mid2 X).1 (X.1,mid2 X).2
    have f2:=hC.few (mid2 X,X.2).1 (mid2 X,X.2).2
    exact ⟨l++m,.two c0 c1 l1 k1,fun y hy=>(List.mem_append.1 hy).elim (lo y) (mo y),(isolate_2 X hX oX _ c0 c1 ct l m (by omega) (by omega) (l2.ren [(500,27)]) (k2.ren [(500,33)])).ren [(27,500)]⟩
structure IsoL (p:List Rat) (X:I2) (l:List I2):Prop where
 len:(l.length:Int)=cntV p X
 short:l.length≤1000
 ok:∀y∈l,okI 150000 y
 holds:∀y∈l,holdsB p y=true
 inn:∀y∈l,X.1≤y.1∧y.1<y.2∧y.2≤X.2
 ord:l.Pairwise (fun a b=>a.2≤b.1)
end Go.Proofs.YtejigedigmagdaaGreat
namespace Go.Proofs.YtejigedigmagdaaGreat
open Go.Vw
attribute [local irreducible] awp awpL awpR
theorem ctr_small{p:List Rat}(tp:Tr p)(p0:p≠[])(hp:HtP 14 p)(lp:p.length≤6):CtrOk p∧∃M,JS (qAz (ctrQ p)) (qAz (derP (ctrQ p))) M:=by
 have pw:(3:Nat)^p.length≤3^6:=Nat.pow_le_pow_right (by decide) lp
 have p6:(3:Nat)^6=729:=by decide
 refine ctrOk_of (B:=11664) tp p0 hp (by decide) (by omega) (by decide) (by omega) (by decide) fun l g g1 gp hl h1=>?_
 unfold Bud
 have hn:p.length+1-g≤7-g:=by omega
 have q1:(p.length+1-g)*l≤(7-g)*l:=Nat.mul_le_mul_right _ hn
 have q2:(3:Nat)^(p.length+1-g)≤3^(7-g):=Nat.pow_le_pow_right (by decide) hn
 have fin:∀(m c:Nat),l≤m->7-g=c->14+c*m+m≤2000000->(14+c*m+m+3)*3^c≤2000000->14+(p.length+1-g)*l+l≤2000000∧(14+(p.length+1-g)*l+l+3)*3^(p.length+1-g)≤2000000:=fun m c hm hc a b=>by
  rw [hc] at q1 q2
  have q3:c*l≤c*m:=Nat.mul_le_mul_left _ hm
  refine ⟨by omega,Nat.le_trans (Nat.mul_le_mul (show _≤14+c*m+m+3 by omega) q2) b⟩
 have gs:g=1∨g=2∨g=3∨g=4∨g=5∨g=6:=by omega
 rcases gs with e|e|e|e|e|e
 ·exact fin 3 6 (by have:=h1 e;omega) (by omega) (by decide) (by decide)
 ·subst e;have:=hl (by decide);exact fin 1296 5 (by omega) (by omega) (by decide) (by decide)
 ·subst e;have:=hl (by decide);exact fin 432 4 (by omega) (by omega) (by decide) (by decide)
 ·subst e;have:=hl (by decide);exact fin 144 3 (by omega) (by omega) (by decide) (by decide)
 ·subst e;have:=hl (by decide);exact fin 48 2 (by omega) (by omega) (by decide) (by decide)
 ·subst e;have:=hl (by decide);exact fin 16 1 (by omega) (by omega) (by decide) (by decide)
theorem cntF_nonneg{p:List Rat}(tp:Tr p)(p0:p≠[])(a b:Rat)(h:a<b):0≤cntF (ctr p) a b:=by
 have hg:=qEo tp (qAl (derC p))
 have tQ:Tr (ctrQ p):=(qBy tp hg.1 (hg.2 (.inl p0)).1).1
 have:=vrs_le qDx tQ (qQb tp p0) (n:=(ctrQ p).length+1) (Nat.lt_succ_self _) h
 unfold cntF
 rw [if_pos h,qN9,qN9]
 unfold ctr
 omega
theorem cntF_add(F:List (List Rat))(a m b:Rat)(h1:a<m)(h2:m<b):cntF F a m+cntF F m b=cntF F a b:=by
 unfold cntF
 rw [if_pos h1,if_pos h2,if_pos (by grind)]
 omega
theorem numQ_bd(v:Int): -30≤numQ v∧numQ v≤30:=by
 unfold numQ
 have a1: -30≤v%61-30:=by omega
 have a2:v%61-30≤30:=by omega
 have b1:1≤1+v.tdiv 61%4:=by omega
 generalize v%61-30=a at *
 generalize 1+v.tdiv 61%4=b at *
 have b2:(1:Rat)≤(b:Rat):=by
  rw [show (1:Rat)=((1:Int):Rat) from rfl]
  exact Rat.intCast_le_intCast.2 b1
 have a3:((-30:Int):Rat)≤(a:Rat):=Rat.intCast_le_intCast.2 a1
 have a4:(a:Rat)≤((30:Int):Rat):=Rat.intCast_le_intCast.2 a2
 have e30:((30:Int):Rat)=30:=rfl
 have e31:((-30:Int):Rat)= -30:=rfl
 rw [e31] at a3
 rw [e30] at a4
 rw [Rat.divInt_eq_div]
 have hb:(0:Rat)<(b:Rat):=by grind
 have e:(a:Rat)/(b:Rat)*(b:Rat)=(a:Rat):=qAm (Rat.ne_of_gt hb)
 generalize (a:Rat)/(b:Rat)=q at *
 constructor
 ·refine Rat.not_lt.1 fun h=>?_
  have:=qAt (a:=1) (b:=(b:Rat)) (c:= -q) (d:= -q) b2 Rat.le_refl (by grind) (by grind)
  grind
 ·refine Rat.not_lt.1 fun h=>?_
  have:=qAt (a:=1) (b:=(b:Rat)) (c:=q) (d:=q) b2 Rat.le_refl (by grind) (by grind)
  grind
theorem qMj{p:List Rat}(op:∀q∈p,okQ 2 q)(lp:p.length≤6):PolOk p:=⟨by omega,fun x hx=>(op x hx).mono (by decide),fun h0=>ctr_small (qAl p) h0 (ht2 op lp) (Nat.le_trans (qAu p) lp)⟩
end Go.Proofs.YtejigedigmagdaaGreat
namespace Go.Proofs.YtejigedigmagdaaGreat
open Go.Vw
attribute [local irreducible] awp awpL awpR qKb
theorem chX_small:ChX qAz:=⟨chOk_small,fun p tp h0 x=>by
 have hl:=qCo tp h0
 have hp:=ab_pos hl
 unfold qAz
 rw [qA4,show absQ (lead p)=ab (lead p) from rfl,←Rat.mul_assoc,Rat.mul_comm (ab (lead p)),qAm (Rat.ne_of_gt hp),Rat.one_mul]⟩
theorem deep_of{p:List Rat}(p0:qAd p≠[]){H:Nat}(hQ:HtP H (ctrQ (qAd p)))(lQ:(ctrQ (qAd p)).length≤6)(hB:(H+3)*3^(ctrQ (qAd p)).length≤25000)(hH:H≤400):Deep (cfn p) 463000:=by
 have tp:=qAl p
 have hg:=qEo tp (qAl (derC (qAd p)))
 have tQ:Tr (ctrQ (qAd p)):=(qBy tp hg.1 (hg.2 (.inl p0)).1).1
 have hb:Bez (ctrQ (qAd p)) (derP (ctrQ (qAd p))):=qQb tp p0
 have hE:=qUo hQ (by omega)
 refine ⟨⟨fun a b h=>?_,fun a b h=>cntF_nonneg tp p0 a b h,fun a m b h1 h2=>cntF_add _ a m b h1 h2⟩,fun a b=>?_,fun a b h1 h2 h3 h4=>?_⟩
 ·unfold cfn cntF
  exact if_neg h
 ·unfold cfn cntF
  have hl:=qHr qAz ((ctrQ (qAd p)).length+1) (ctrQ (qAd p)) (derP (ctrQ (qAd p)))
  have b1:=qK6 ((ctr (qAd p)).map fun f=>sgQ (qAb f a)) 0
  have b2:=qK6 ((ctr (qAd p)).map fun f=>sgQ (qAb f b)) 0
  rw [List.length_map] at b1 b2
  have hl2:(ctr (qAd p)).length≤7:=by unfold ctr;omega
  split
  ·unfold vrsF;omega
  ·decide
 ·have:=depth qDx chX_small tQ hb hQ hE lQ hB hH (n:=(ctrQ (qAd p)).length+1) (Nat.lt_succ_self _) h1 h2 h3 h4
  show cntF (ctr (qAd p)) a b≤1
  unfold cntF
  rw [if_pos h3,qN9,qN9]
  exact this
theorem num_12(v:Int):∃A:Int,A.natAbs≤360∧numQ v=Rat.divInt A 12:=by
 unfold numQ
 have a1: -30≤v%61-30:=by omega
 have a2:v%61-30≤30:=by omega
 have b1:0≤v.tdiv 61%4∧v.tdiv 61%4≤3:=by omega
 generalize v%61-30=a at *
 generalize v.tdiv 61%4=b at *
 have cs:b=0∨b=1∨b=2∨b=3:=by omega
 rcases cs with rfl|rfl|rfl|rfl
 ·exact ⟨a*12,by omega,by show Rat.divInt a 1=Rat.divInt (a*12) (1*12);rw [Rat.divInt_mul_right (by decide)]⟩
 ·exact ⟨a*6,by omega,by show Rat.divInt a (1+1)=Rat.divInt (a*6) ((1+1)*6);rw [Rat.divInt_mul_right (by decide)]⟩
 ·exact ⟨a*4,by omega,by show Rat.divInt a (1+2)=Rat.divInt (a*4) ((1+2)*4);rw [Rat.divInt_mul_right (by decide)]⟩
 ·exact ⟨a*3,by omega,by show Rat.divInt a (1+3)=Rat.divInt (a*3) ((1+3)*3);rw [Rat.divInt_mul_right (by decide)]⟩
end Go.Proofs.YtejigedigmagdaaGreat
namespace Go.Vw
def psiV(d sq:Rat):Rat:=d*((1-sq*(d*d))*(1-sq*(d*d)))
def wP(v sq:Rat):List Rat:=subC [1] (smul sq (mulC [v, -1] [v, -1]))
def psiP(v sq:Rat):List Rat:=qAd (mulC [v, -1] (mulC (wP v sq) (wP v sq)))
theorem ev_res(v t:Rat):qAb [v, -1] t=v-t:=by simp only [qAb];grind
theorem ev_wP(v sq t:Rat):qAb (wP v sq) t=1-sq*((v-t)*(v-t)):=by
 unfold wP
 rw [qEj,qA4,qAg,ev_res,qJ8]
theorem ev_psiP(v sq t:Rat):qAb (psiP v sq) t=psiV (v-t) sq:=by
 unfold psiP psiV
 rw [qAp,qAg,qAg,ev_res,ev_wP]
def sumV:List Rat->Rat->Rat->Rat
 |[],_,_=>0
 |v::l,sq,t=>psiV (v-t) sq+sumV l sq t
def sumC:List Rat->Rat->List Rat
 |[],_=>[]
 |v::l,sq=>addC (psiP v sq) (sumC l sq)
theorem ev_sumC(sq t:Rat):∀l:List Rat,qAb (sumC l sq) t=sumV l sq t
 |[]=>rfl
 |v::l=>by rw [sumC,qBh,ev_psiP,ev_sumC sq t l];rfl
def eqP(l:List Rat)(sq:Rat):List Rat:=qAd (sumC l sq)
theorem ev_eqP(l:List Rat)(sq t:Rat):qAb (eqP l sq) t=sumV l sq t:=by unfold eqP;rw [qAp,ev_sumC]
theorem qLu(l:List Rat)(sq:Rat):Tr (eqP l sq):=qAl _
theorem qM1(sq t v:Rat):∀l:List Rat,sumV (l++[v]) sq t=sumV l sq t+psiV (v-t) sq
 |[]=>by show psiV (v-t) sq+0=0+psiV (v-t) sq;grind
 |u::l=>by
  have:=qM1 sq t v l
  show psiV (u-t) sq+sumV (l++[v]) sq t=psiV (u-t) sq+sumV l sq t+psiV (v-t) sq
  rw [this];grind
theorem eqP_of{p l:List Rat}{sq:Rat}(tp:Tr p)(h:∀t,qAb p t=sumV l sq t):p=eqP l sq:=tp.ext (qLu l sq) (qA0 fun t=>by rw [h,ev_eqP])
theorem cf_psi(v sq:Rat)(i:Nat)(h:6≤i):cf (psiP v sq) i=0:=by
 unfold psiP
 rw [qBi]
 have w:∀j,2<j->cf (wP v sq) j=0:=fun j hj=>by
  unfold wP
  rw [qJ9,qA6,qCr (p:=[1]) (by show 1≤j;omega)]
  have:=(qEz [v, -1] [v, -1] 1 1 (fun i hi=>qCr (by show 2≤i;omega)) (fun i hi=>qCr (by show 2≤i;omega))).2 j (by omega)
  rw [this];grind
 have ww:=(qEz (wP v sq) (wP v sq) 2 2 w w).2
 exact (qEz [v, -1] (mulC (wP v sq) (wP v sq)) 1 4 (fun i hi=>qCr (by show 2≤i;omega)) (fun i hi=>ww i (by omega))).2 i (by omega)
theorem cf_sumC(sq:Rat):∀(l:List Rat) (i:Nat),6≤i->cf (sumC l sq) i=0
 |[],i,_=>rfl
 |v::l,i,h=>by rw [sumC,qBg,cf_psi v sq i h,cf_sumC sq l i h,Rat.add_zero]
theorem qHn(l:List Rat)(sq:Rat):(eqP l sq).length≤6:=(qLu l sq).len_lt fun i hi=>by unfold eqP;rw [qBi];exact cf_sumC sq l i hi
theorem qUn{k:Nat}{v:Rat}(hk:1<k)(h:okQ k v):HtP k [v, -1]:=by
  have e:Rat.divInt v.num v.den=v:=Rat.num_divInt_den v
  have d0:=v.den_nz
  refine ⟨(v.den:Int),fun i=>match i with|0=>v.num|1=> -(v.den:Int)|_+2=>0,by omega,by rw [Int.natAbs_natCast];exact h.2,fun i=>?_⟩
  match i with
  |0=>exact ⟨h.1,e.symm⟩
  |1=>exact ⟨by show ln (-(v.den:Int)).natAbs<k;rw [Int.natAbs_neg,Int.natAbs_natCast];exact h.2,by
    show (-1:Rat)=Rat.divInt (-(v.den:Int)) (v.den:Int)
    rw [←Rat.neg_divInt,Rat.divInt_self' (by omega)]⟩
  |i+2=>exact ⟨by show ln 0<k;rw [qF7];omega,(Rat.zero_divInt _).symm⟩
theorem ht_wP{k m:Nat}{v sq:Rat}(hk:1<k)(h:okQ k v)(hs:okQ m sq):HtP (4+2*k+m) (wP v sq):=by
 have r:=qUn hk h
 have h1:HtP 2 [1]:=⟨1,fun i=>match i with|0=>1|_+1=>0,by decide,by show ln 1<2;rw [qKw];decide,fun i=>match i with
  |0=>⟨by show ln 1<2;rw [qKw];decide,by decide+kernel⟩
  |i+1=>⟨by show ln 0<2;rw [qF7];decide,(Rat.zero_divInt 1).symm⟩⟩
 have:=h1.sub ((r.mul r).smul hs)
 exact this.mono (by simp only [List.length_cons,List.length_nil];omega)
theorem ht_psi{k m:Nat}{v sq:Rat}(hk:1<k)(h:okQ k v)(hs:okQ m sq):HtP (20+5*k+2*m) (psiP v sq):=by
 have r:=qUn hk h
 have w:=ht_wP hk h hs
 have lw:(qAd (wP v sq)).length≤3:=(qAl _).len_lt fun j hj=>by
  rw [qBi]
  unfold wP
  rw [qJ9,qA6,qCr (p:=[1]) (by show 1≤j;omega)]
  have:=(qEz [v, -1] [v, -1] 1 1 (fun i hi=>qCr (by show 2≤i;omega)) (fun i hi=>qCr (by show 2≤i;omega))).2 j (by omega)
  rw [this];grind
 have ww:=w.trim.mul w.trim
 have e:Eqv (mulC (qAd (wP v sq)) (qAd (wP v sq))) (mulC (wP v sq) (wP v sq)):=(qFj _ (qCf _)).trans (qI3 _ (qCf _))
 have:=r.mul (ww.eqv e.symm)
 exact this.trim.mono (by simp only [List.length_cons,List.length_nil];omega)
theorem ht_eqP{k m:Nat}{sq:Rat}(hk:1<k)(hs:okQ m sq):∀{l:List Rat},(∀v∈l,okQ k v)->HtP (2+l.length*(20+5*k+2*m)) (sumC l sq)
 |[],_=>HtP.nil.mono (by omega)
 |v::l,h=>by
  have a:=ht_psi hk (h v List.mem_cons_self) hs
  have b:=ht_eqP hk hs (l:=l) fun u hu=>h u (List.mem_cons_of_mem _ hu)
  refine (a.add b).mono ?_
  rw [List.length_cons,Nat.add_mul]
  omega
theorem lin_tr(s:Rat):Tr [-s,1]∧([-s,1]:List Rat)≠[]:=⟨tr_lin s,by simp⟩
theorem rem_lin{p:List Rat}(tp:Tr p)(s:Rat):((divP p [-s,1]).2=[]↔qAb p s=0)∧∀x,qAb p x=qAb (divP p [-s,1]).1 x*(x-s)+qAb (divP p [-s,1]).2 x:=by
 obtain ⟨t1,t2⟩:=lin_tr s
 obtain ⟨h1,h2,h3,h4⟩:=qBy tp t1 t2
 have ev:∀x,qAb p x=qAb (divP p [-s,1]).1 x*(x-s)+qAb (divP p [-s,1]).2 x:=fun x=>by
  have:=qE1 x h4
  rw [qBh,qAg,qD4] at this
  exact this.symm
 refine ⟨⟨fun e=>?_,fun e=>?_⟩,ev⟩
 ·rw [ev s,e,Rat.sub_self,Rat.mul_zero,Rat.zero_add];rfl
 ·refine Classical.byContradiction fun hn=>?_
  have l1:(divP p [-s,1]).2.length=1:=by
   have:=qA2 hn
   simp only [List.length_cons,List.length_nil] at h3
   omega
  have e2:=ev s
  rw [Rat.sub_self,Rat.mul_zero,Rat.zero_add,e] at e2
  match hr:(divP p [-s,1]).2,l1 with
  |[c],_=>
   rw [hr] at e2 h2
   have c0:c≠0:=fun e3=>h2 (by simp) (by rw [e3];rfl)
   exact c0 (by simp only [qAb] at e2;grind)
def woP:Nat->List Rat->Rat->List Rat
 |0,p,_=>p
 |n+1,p,s=>if (divP p [-s,1]).2=[] then woP n (divP p [-s,1]).1 s else p
theorem quo_lin{p:List Rat}(tp:Tr p)(p0:p≠[]){s:Rat}(h:(divP p [-s,1]).2=[]):Tr (divP p [-s,1]).1∧(divP p [-s,1]).1≠[]∧(divP p [-s,1]).1.length+1=p.length:=by
  obtain ⟨t1,t2⟩:=lin_tr s
  obtain ⟨h1,h2,h3,h4⟩:=qBy tp t1 t2
  obtain ⟨_,ev⟩:=rem_lin tp s
  have q0:(divP p [-s,1]).1≠[]:=fun e=>by
    obtain ⟨x,hx⟩:=ev_ne tp p0
    rw [ev x,e,h] at hx
    exact hx (by have e0:qAb [] x=0:=rfl
                 rw [e0];grind)
  have e1:mulT (divP p [-s,1]).1 [-s,1]=p:=(qEm _ _).ext tp fun i=>by
    unfold mulT
    rw [qBi]
    exact qA0 (fun x=>by rw [qAg,qD4,ev x,h];have e0:qAb [] x=0:=rfl
                         rw [e0,Rat.add_zero]) i
  have l:=(qE0 h1 t1 q0 t2).1
  rw [e1] at l
  exact ⟨h1,q0,by simp only [List.length_cons,List.length_nil] at l;have:=qA2 q0;omega⟩
theorem qFd:∀(n:Nat) {p:List Rat} {s:Rat},Tr p->p≠[]->p.length≤n->Tr (woP n p s)∧woP n p s≠[]∧qAb (woP n p s) s≠0∧(woP n p s).length≤p.length∧∃j:Nat,∀x,qAb p x=(x-s)^j*qAb (woP n p s) x
 |0,p,s,tp,p0,hl=>absurd (List.length_eq_zero_iff.1 (by omega)) p0
 |n+1,p,s,tp,p0,hl=>by
  obtain ⟨hr,ev⟩:=rem_lin tp s
  unfold woP
  split
  ·rename_i h
   obtain ⟨q1,q2,q3⟩:=quo_lin tp p0 h
   obtain ⟨a1,a2,a3,a4,j,a5⟩:=qFd n (s:=s) q1 q2 (by omega)
   refine ⟨a1,a2,a3,by omega,j+1,fun x=>?_⟩
   rw [ev x,h,a5 x,Rat.pow_succ]
   have e0:qAb [] x=0:=rfl
   rw [e0];grind
  ·rename_i h
   exact ⟨tp,p0,fun e=>h (hr.2 e),Nat.le_refl _,0,fun x=>by rw [Rat.pow_zero,Rat.one_mul]⟩
def qEp(r:Rat):Rat->List Rat->List I2
 |_,[]=>[]
 |a,b::l=>if a+r≤b-r then (a+r,b-r)::qEp r b l else qEp r b l
def qTe(r:Rat):List Rat->List I2
 |[]=>[]
 |a::l=>qEp r a l
theorem qOy(r:Rat):∀(l:List Rat) (a b:Rat),qEp r a (l++[b])=qEp r a l++(if (a::l).getLastD 0+r≤b-r then [((a::l).getLastD 0+r,b-r)] else [])
 |[],a,b=>by simp only [List.nil_append,qEp,List.getLastD_cons,List.getLastD_nil]
 |c::l,a,b=>by
  have e:(a::c::l).getLastD 0=(c::l).getLastD 0:=by simp [List.getLastD_cons]
  rw [e,List.cons_append]
  simp only [qEp]
  split
  ·rw [qOy r l c b,List.cons_append]
  ·rw [qOy r l c b]
def actF(x:List Rat)(r t:Rat):List Rat:=x.filter fun v=>decide (absQ (v-t)<r)
theorem absQ_lt{d r:Rat}:absQ d<r↔ -r<d∧d<r:=by
 unfold absQ
 split
 ·constructor
  ·intro h;constructor<;>grind
  ·intro h;grind
 ·constructor
  ·intro h;constructor<;>grind
  ·intro h;grind
theorem actF_cons(v:Rat)(x:List Rat)(r t:Rat):actF (v::x) r t=if absQ (v-t)<r then v::actF x r t else actF x r t:=by
 unfold actF
 rw [List.filter_cons]
 by_cases h:absQ (v-t)<r
 ·rw [if_pos h,decide_eq_true h,if_pos rfl]
 ·rw [if_neg h,decide_eq_false h];rfl
theorem psi_edge{d r sq:Rat}(hs:sq*(r*r)=1)(h:d=r∨d= -r):psiV d sq=0:=by
 unfold psiV
 have:1-sq*(d*d)=0:=by
  rcases h with rfl|rfl
  ·rw [hs];grind
  ·have: -r* -r=r*r:=by grind
   rw [this,hs];grind
 rw [this];grind
theorem sum_piece{r sq a b t m:Rat}(hr:0<r)(hs:sq*(r*r)=1)(h1:a≤t)(h2:t≤b)(m1:a<m)(m2:m<b):∀{x:List Rat},(∀v∈x,(v-r≤a∨b≤v-r)∧(v+r≤a∨b≤v+r))->sumV (actF x r t) sq t=sumV (actF x r m) sq t
 |[],_=>rfl
 |v::x,h=>by
  have ih:=sum_piece hr hs h1 h2 m1 m2 (x:=x) fun u hu=>h u (List.mem_cons_of_mem _ hu)
  obtain ⟨c1,c2⟩:=h v List.mem_cons_self
  rw [actF_cons,actF_cons]
  rcases c1 with d1|d1
  ·rcases c2 with d2|d2
   ·rw [if_neg (fun e=>by have:=absQ_lt.1 e;grind),if_neg (fun e=>by have:=absQ_lt.1 e;grind)]
    exact ih
   ·rw [if_pos (show absQ (v-m)<r from absQ_lt.2 ⟨by grind,by grind⟩)]
    by_cases e:absQ (v-t)<r
    ·rw [if_pos e]
     show psiV (v-t) sq+_=psiV (v-t) sq+_
     rw [ih]
    ·rw [if_neg e]
     have hz:psiV (v-t) sq=0:=by
      refine psi_edge hs ?_
      have:¬(-r<v-t∧v-t<r):=fun k=>e (absQ_lt.2 k)
      by_cases k:v-t<r
      ·right;grind
      ·left;grind
     show _=psiV (v-t) sq+_
     rw [hz,Rat.zero_add]
     exact ih
  ·rw [if_neg (fun e=>by have:=absQ_lt.1 e;grind),if_neg (fun e=>by have:=absQ_lt.1 e;grind)]
   exact ih
theorem Brk.piece{x q:List Rat}{r sq:Rat}(hr:0<r)(hs:sq*(r*r)=1)(h:Brk x r q){i:Nat}(hi:i+1<q.length){t:Rat}(h1:q[i]≤t)(h2:t≤q[i+1]):sumV (actF x r t) sq t=qAb (eqP (actF x r ((q[i]+q[i+1])/2)) sq) t:=by
 rw [ev_eqP]
 have p:=List.pairwise_iff_getElem.1 h.asc i (i+1) (by omega) hi (by omega)
 have e:=qR5 (q[i]+q[i+1])
 exact sum_piece hr hs h1 h2 (by grind) (by grind) fun v hv=>⟨nbr h.asc hi (h.lo v hv),nbr h.asc hi (h.hi v hv)⟩
theorem cf_psi5(v sq:Rat):cf (psiP v sq) 5= -(sq*sq):=by
 unfold psiP
 rw [qBi]
 have w:∀j,2<j->cf (wP v sq) j=0:=fun j hj=>by
  unfold wP
  rw [qJ9,qA6,qCr (p:=[1]) (by show 1≤j;omega)]
  have:=(qEz [v, -1] [v, -1] 1 1 (fun i hi=>qCr (by show 2≤i;omega)) (fun i hi=>qCr (by show 2≤i;omega))).2 j (by omega)
  rw [this];grind
 have w2:cf (wP v sq) 2= -sq:=by
  unfold wP
  rw [qJ9,qA6,qCr (p:=[1]) (by decide)]
  have:=(qEz [v, -1] [v, -1] 1 1 (fun i hi=>qCr (by show 2≤i;omega)) (fun i hi=>qCr (by show 2≤i;omega))).1
  rw [show (2:Nat)=1+1 from rfl,this]
  show 0-sq*(-1* -1)= -sq
  grind
 have ww:=qEz (wP v sq) (wP v sq) 2 2 w w
 have:=(qEz [v, -1] (mulC (wP v sq) (wP v sq)) 1 4 (fun i hi=>qCr (by show 2≤i;omega)) (fun i hi=>ww.2 i (by omega))).1
 rw [show (5:Nat)=1+4 from rfl,this,show (4:Nat)=2+2 from rfl,ww.1,w2]
 show-1*(-sq* -sq)=_
 grind
theorem cf_sum5(sq:Rat):∀l:List Rat,cf (sumC l sq) 5= -(((l.length:Nat):Rat)*(sq*sq))
 |[]=>by show (0:Rat)= -(((0:Nat):Rat)*(sq*sq));have:((0:Nat):Rat)=0:=rfl;rw [this];grind
 |v::l=>by
  have e:(((v::l).length:Nat):Rat)=((l.length:Nat):Rat)+1:=by rw [List.length_cons,Rat.natCast_add];rfl
  rw [sumC,qBg,cf_psi5,cf_sum5 sq l,e];grind
theorem eqP_ne{l:List Rat}{sq:Rat}(h:l≠[])(hs:sq≠0):(eqP l sq).length=6∧eqP l sq≠[]:=by
 have c5:cf (eqP l sq) 5≠0:=by
  unfold eqP
  rw [qBi,cf_sum5]
  have hn:((l.length:Nat):Rat)≠0:=fun e=>by
   have e0:((l.length:Nat):Rat)=((0:Nat):Rat):=e
   exact h (List.length_eq_zero_iff.1 (Rat.natCast_inj.1 e0))
  intro e
  have e2:((l.length:Nat):Rat)*(sq*sq)=0:=by grind
  have e3:=mul0 e2 hn
  exact hs (mul0 e3 hs)
 have h1:=qHn l sq
 have h2:5<(eqP l sq).length:=Nat.lt_of_not_le fun e=>c5 (qCr e)
 exact ⟨by omega,fun e=>by rw [e] at h2;simp at h2⟩
theorem bez_gcd{A B:List Rat}(tA:Tr A)(tB:Tr B)(A0:A≠[])(h:Bez A B):gcdP A B=[1]:=by
 obtain ⟨u,v,h⟩:=h
 obtain ⟨g1,g2⟩:=qEo tA tB
 obtain ⟨g3,g4⟩:=g2 (.inl A0)
 obtain ⟨a,ha⟩:=qH7 (qG4 tA tB).1
 obtain ⟨b,hb⟩:=qH7 (qG4 tA tB).2
 obtain ⟨c,c0,e⟩:=qN5 g1 ⟨addC (mulC u a) (mulC v b),[],fun x=>by
  have:=h x
  rw [ha x,hb x] at this
  have e0:qAb [] x=0:=rfl
  rw [qBh,qAg,qAg,e0]
  grind⟩
 rw [e] at g4 ⊢
 have:c=1:=g4
 rw [this]
theorem qNf(s x:Rat):∀j:Nat,qIf (List.replicate j s) x=(x-s)^j
 |0=>by show (1:Rat)=_;rw [Rat.pow_zero]
 |j+1=>by
  rw [List.replicate_succ,Rat.pow_succ,←qNf s x j]
  show (x-s)*qIf (List.replicate j s) x=_
  rw [Rat.mul_comm]
theorem dEv_lin(s x:Rat):dEv [-s,1] x=1:=by rw [qEk,qEk,qK3];simp only [qAb];grind
theorem dEv_rep(s x:Rat):∀j:Nat,dEv (qOj (List.replicate (j+1) s)) x=((j+1:Nat):Rat)*(x-s)^j
 |0=>by
  show dEv (mulC [-s,1] [1]) x=_
  rw [qDs,dEv_lin,qJ8,Rat.pow_zero,show dEv [1] x=0 by rw [qEk];simp only [qAb,qK3];grind]
  have:((0+1:Nat):Rat)=1:=rfl
  rw [this];grind
 |j+1=>by
  have ih:=dEv_rep s x j
  rw [List.replicate_succ]
  show dEv (mulC [-s,1] (qOj (List.replicate (j+1) s))) x=_
  rw [qDs,dEv_lin,ih,qFs,qNf,qD4]
  have e:((j+1+1:Nat):Rat)=((j+1:Nat):Rat)+1:=by rw [Rat.natCast_add (j+1) 1];rfl
  rw [e,Rat.pow_succ];grind
theorem quo_factor{W P:List Rat}{s:Rat}{j:Nat}(tW:Tr W)(W0:W≠[])(hs:qAb W s≠0)(tP:Tr P)(hP:∀x,qAb P x=(x-s)^(j+1)*qAb W x):(divP P (gcdP P (derP P))).1=mulT [-s,1] (divP W (gcdP W (derP W))).1:=by
 have tE:Tr (derP W):=qAl _
 obtain ⟨g1,g2⟩:=qEo tW tE
 obtain ⟨g3,g4⟩:=g2 (.inl W0)
 have hQ:=qGh tW W0
 obtain ⟨R,hR⟩:=qH7 (qG4 tW tE).2
 have tQ:=(qBy tW g1 g3).1
 obtain ⟨u0,v0,hb⟩:=bezout _ tW tE (Nat.le_refl _)
 generalize gcdP W (derP W)=g at *
 generalize (divP W g).1=Q at *
 have gne:=ev_ne g1 g3
 have h4:∀x,qAb (addC (mulC u0 Q) (mulC v0 R)) x=qAb [1] x:=qSo gne fun x=>by
  have:=hb x
  rw [hQ x,hR x] at this
  rw [qBh,qAg,qAg,qJ8]
  grind
 have bz:∀x,qAb u0 x*qAb Q x+qAb v0 x*qAb R x=1:=fun x=>by
  have:=h4 x
  rwa [qBh,qAg,qAg,qJ8] at this
 have Qs:qAb Q s≠0:=fun e=>hs (by rw [hQ s,e,Rat.zero_mul])
 have Q0:Q≠[]:=fun e=>Qs (by rw [e];rfl)
 have n0:((j+1:Nat):Rat)≠0:=fun e=>by
  have e0:((j+1:Nat):Rat)=((0:Nat):Rat):=e
  have:=Rat.natCast_inj.1 e0
  omega
 obtain ⟨m1,m2,m3,m4⟩:=mP_tr (List.replicate j s)
 have tm:Tr (mulT (mP (List.replicate j s)) g):=qEm _ _
 have lm:lead (mulT (mP (List.replicate j s)) g)=1:=by rw [(qE0 m1 g1 m2 g3).2,m3,g4,Rat.one_mul]
 have mne:=qMk m1 g1 m2 g3
 have evm:∀x,qAb (mulT (mP (List.replicate j s)) g) x=(x-s)^j*qAb g x:=fun x=>by
  unfold mulT;rw [qAp,qAg,ev_mP,qNf]
 have evA:∀x,qAb (mulT [-s,1] Q) x=(x-s)*qAb Q x:=fun x=>by unfold mulT;rw [qAp,qAg,qD4]
 obtain ⟨B,hB⟩:∃B,B=qAd (addC (smul ((j+1:Nat):Rat) Q) (mulC [-s,1] R)):=⟨_,rfl⟩
 have tB:Tr B:=by rw [hB];exact qAl _
 have evB:∀x,qAb B x=((j+1:Nat):Rat)*qAb Q x+(x-s)*qAb R x:=fun x=>by rw [hB,qAp,qBh,qA4,qAg,qD4]
 clear hB
 have tA:Tr (mulT [-s,1] Q):=qEm _ _
 have A0:mulT [-s,1] Q≠[]:=qMk (tr_lin s) tQ (by simp) Q0
 generalize hm:mulT (mP (List.replicate j s)) g=m at *
 -- both are multiples
 have eP:P=mulT (mulT [-s,1] Q) m:=tP.ext (qEm _ _) (qA0 fun x=>by
  rw [hP x,hQ x]
  unfold mulT at evA ⊢
  rw [qAp,qAg,evA x,evm x,Rat.pow_succ];grind)
 have dP:∀x,dEv P x=((j+1:Nat):Rat)*(x-s)^j*qAb W x+(x-s)^(j+1)*dEv W x:=fun x=>by
  have:dEv P x=dEv (mulC (qOj (List.replicate (j+1) s)) W) x:=qIj (qA0 fun y=>by rw [hP y,qAg,qFs,qNf]) x
  rw [this,qDs,dEv_rep,qFs,qNf]
 have eD:derP P=mulT B m:=(qAl _).ext (qEm _ _) (qA0 fun x=>by
  show qAb (derP P) x=_
  rw [qCy,dP x,hQ x,←qCy W,hR x]
  unfold mulT
  rw [qAp,qAg,evB x,evm x,Rat.pow_succ];grind)
 -- they have no common divisor
 have bAB:Bez (mulT [-s,1] Q) B:=by
  obtain ⟨c,hc⟩:∃c,c*qAb Q s=1:=⟨(qAb Q s)⁻¹,by rw [Rat.mul_comm];exact Rat.mul_inv_cancel _ Qs⟩
  obtain ⟨d,hd⟩:∃d,d*(((j+1:Nat):Rat)*qAb Q s)=1:=⟨(((j+1:Nat):Rat)*qAb Q s)⁻¹,by rw [Rat.mul_comm];exact Rat.mul_inv_cancel _ (fun e=>Qs (mul0 e n0))⟩
  have sQ:=qM0 Q s
  have sR:=fun x=>qM0 (smul ((j+1:Nat):Rat) Q) s x
  -- 1 out of Q and B
  obtain ⟨a1,ha1⟩:∃a:List Rat,∀x,qAb a x=c*(1-qAb (syn Q s) x*((x-s)*qAb u0 x-((j+1:Nat):Rat)*qAb v0 x)):=⟨smul c (subC [1] (mulC (syn Q s) (subC (mulC [-s,1] u0) (smul ((j+1:Nat):Rat) v0)))),fun x=>by rw [qA4,qEj,qJ8,qAg,qEj,qAg,qD4,qA4]⟩
  obtain ⟨b1,hb1⟩:∃b:List Rat,∀x,qAb b x= -(c*(qAb (syn Q s) x*qAb v0 x)):=⟨smul (-c) (mulC (syn Q s) v0),fun x=>by rw [qA4,qAg];grind⟩
  have one1:∀x,qAb a1 x*qAb Q x+qAb b1 x*qAb B x=1:=fun x=>by
   rw [ha1,hb1,evB]
   have z:=bz x
   have y:=sQ x
   have w:(x-s)*(qAb u0 x*qAb Q x+qAb v0 x*qAb R x)=x-s:=by rw [z,Rat.mul_one]
   have l1:c*(1-qAb (syn Q s) x*((x-s)*qAb u0 x-((j+1:Nat):Rat)*qAb v0 x))*qAb Q x+ -(c*(qAb (syn Q s) x*qAb v0 x))*(((j+1:Nat):Rat)*qAb Q x+(x-s)*qAb R x)=c*(qAb Q x-qAb (syn Q s) x*((x-s)*(qAb u0 x*qAb Q x+qAb v0 x*qAb R x))):=by grind
   rw [l1,w]
   have l2:qAb Q x-qAb (syn Q s) x*(x-s)=qAb Q s:=by grind
   rw [l2];exact hc
  obtain ⟨a2,ha2⟩:∃a:List Rat,∀x,qAb a x= -(d*(qAb (syn (smul ((j+1:Nat):Rat) Q) s) x+qAb R x)):=⟨smul (-d) (addC (syn (smul ((j+1:Nat):Rat) Q) s) R),fun x=>by rw [qA4,qBh];grind⟩
  have one2:∀x,qAb a2 x*(x-s)+d*qAb B x=1:=fun x=>by
   rw [ha2,evB]
   have y:=sR x
   rw [qA4,qA4] at y
   have l1: -(d*(qAb (syn (smul ((j+1:Nat):Rat) Q) s) x+qAb R x))*(x-s)+d*(((j+1:Nat):Rat)*qAb Q x+(x-s)*qAb R x)=d*(((j+1:Nat):Rat)*qAb Q x-(x-s)*qAb (syn (smul ((j+1:Nat):Rat) Q) s) x):=by grind
   rw [l1]
   have l2:((j+1:Nat):Rat)*qAb Q x-(x-s)*qAb (syn (smul ((j+1:Nat):Rat) Q) s) x=((j+1:Nat):Rat)*qAb Q s:=by grind
   rw [l2];exact hd
  refine ⟨mulC a1 a2,addC (mulC b1 (mulC a2 [-s,1])) (smul d (addC (mulC a1 Q) (mulC b1 B))),fun x=>?_⟩
  rw [evA,qAg,qBh,qAg,qAg,qD4,qA4,qBh,qAg,qAg]
  have o1:=one1 x
  have o2:=one2 x
  have:(qAb a1 x*qAb Q x+qAb b1 x*qAb B x)*(qAb a2 x*(x-s)+d*qAb B x)=1:=by rw [o1,o2,Rat.one_mul]
  grind
 have eg:gcdP P (derP P)=m:=by
  rw [eD]
  have:=gcdP_mulT tA tB tm lm
  rw [←eP] at this
  rw [this,bez_gcd tA tB A0 bAB]
  exact (qEm _ _).ext tm (qA0 fun x=>by unfold mulT;rw [qAp,qAg,qJ8,Rat.one_mul])
 rw [eg]
 have:=qHo tP tm mne tA Tr.nil (qA2 mne) (fun i=>by
  rw [qBg]
  have e0:cf [] i=0:=rfl
  rw [e0,Rat.add_zero,eP]
  unfold mulT
  rw [qBi (mulC (qAd (mulC [-s,1] Q)) m)])
 rw [this]
theorem qLk{a u:Rat}(ha:0<a):(a*u<0↔u<0)∧(0<a*u↔0<u)∧(0≤a*u↔0≤u)∧(a*u≤0↔u≤0):=by
 have p:0<u->0<a*u:=fun h=>Rat.mul_pos ha h
 have n:u<0->a*u<0:=fun h=>by have:=Rat.mul_pos ha (show 0< -u by grind);grind
 have z:u=0->a*u=0:=fun h=>by rw [h,Rat.mul_zero]
 by_cases h1:0<u
 ·have:=p h1;refine ⟨⟨?_,?_⟩,⟨?_,?_⟩,⟨?_,?_⟩,⟨?_,?_⟩⟩<;>intro<;>grind
 ·by_cases h2:u<0
  ·have:=n h2;refine ⟨⟨?_,?_⟩,⟨?_,?_⟩,⟨?_,?_⟩,⟨?_,?_⟩⟩<;>intro<;>grind
  ·have:=z (by grind);refine ⟨⟨?_,?_⟩,⟨?_,?_⟩,⟨?_,?_⟩,⟨?_,?_⟩⟩<;>intro<;>grind
theorem cross_same{f g:Fn}{x y a b:Rat}(hab:0<a*b)(hx:f x=a*g x)(hy:f y=b*g y):qGp f x y↔qGp g x y:=by
 unfold qGp
 rw [hx,hy]
 rcases pos_cases hab with ⟨h1,h2⟩|⟨h1,h2⟩
 ·obtain ⟨p1,p2,p3,p4⟩:=qLk (u:=g x) h1
  obtain ⟨q1,q2,q3,q4⟩:=qLk (u:=g y) h2
  rw [p1,p2,q3,q4]
 ·obtain ⟨p1,p2,p3,p4⟩:=qLk (u:=g x) (show 0< -a by grind)
  obtain ⟨q1,q2,q3,q4⟩:=qLk (u:=g y) (show 0< -b by grind)
  have e1: -a*g x= -(a*g x):=by grind
  have e2: -b*g y= -(b*g y):=by grind
  rw [e1] at p1 p2 p3 p4
  rw [e2] at q1 q2 q3 q4
  constructor
  ·rintro (⟨k1,k2⟩|⟨k1,k2⟩)
   ·right;exact ⟨p2.1 (by grind),q4.1 (by grind)⟩
   ·left;exact ⟨p1.1 (by grind),q3.1 (by grind)⟩
  ·rintro (⟨k1,k2⟩|⟨k1,k2⟩)
   ·right;have:=p1.2 k1;have:=q3.2 k2;constructor<;>grind
   ·left;have:=p2.2 k1;have:=q4.2 k2;constructor<;>grind
theorem cnt_factor{ch:List Rat->List Rat}(hc:ChS ch){Q Q1:List Rat}{s:Rat}(tQ:Tr Q)(hb:Bez Q (derP Q))(tQ1:Tr Q1)(hb1:Bez Q1 (derP Q1))(hs:qAb Q s≠0)(e1:∀x,qAb Q1 x=(x-s)*qAb Q x){n n1:Nat}(hn:Q.length<n)(hn1:Q1.length<n1){lo hi:Rat}(hl:lo<hi):vrs ((qBf ch n1 Q1 (derP Q1)).map qAb) lo-vrs ((qBf ch n1 Q1 (derP Q1)).map qAb) hi=vrs ((qBf ch n Q (derP Q)).map qAb) lo-vrs ((qBf ch n Q (derP Q)).map qAb) hi+((if s≤hi then 1 else 0)-(if s≤lo then 1 else 0)):=by
 obtain ⟨X,hX,h1,h2⟩:=inD_two lo hi
 obtain ⟨a,ha,A⟩:=qIn hc hX tQ hb hn
 obtain ⟨b,hbb,B⟩:=qIn hc hX tQ1 hb1 hn1
 obtain ⟨L,hL,lp⟩:=qOt X hX Q
 have pQ:=ab_pos hs
 obtain ⟨d,pd,md⟩:∃d,0<d∧d*(1+L)=ab (qAb Q s)/2:=⟨_,qDr (a:=ab (qAb Q s)/2) (b:=1+L) (by grind) (by grind)⟩
 generalize vrs ((qBf ch n Q (derP Q)).map qAb)=V at *
 generalize vrs ((qBf ch n1 Q1 (derP Q1)).map qAb)=V1 at *
 obtain ⟨m1,m2⟩:=qRt (Rat.le_refl (a:=mn (mn a b) d))
 obtain ⟨m3,m4⟩:=qRt m1
 refine ways (R:=fun x y=>V1 x-V1 y=V x-V y+((if s≤y then 1 else 0)-(if s≤x then 1 else 0))) (fun x y z p q=>by omega) (qJ6 (qJ6 ha hbb) pd) (fun x y hx hy hxy hd=>?_) hl h1 h2
 rw [A x y hx hy hxy (Rat.le_trans hd m3),B x y hx hy hxy (Rat.le_trans hd m4)]
 by_cases c:x≤s∧s≤y
 ·have ins:inD X s:=inD_mid hx hy c.1 c.2
  have near:∀z,inD X z->ab (s-z)≤d->(0<qAb Q s∧0<qAb Q z)∨(qAb Q s<0∧qAb Q z<0):=fun z hz h=>by
   have k:=lp s z ins hz
   have k2:=qKr (e:=ab (qAb Q s)) hL pQ (by grind) h (qAo _)
   exact qOc pQ Rat.le_refl (by grind)
  have nx:=near x hx (qK9 (by grind) (by grind))
  have ny:=near y hy (qK9 (by grind) (by grind))
  have nc:¬qGp (qAb Q) x y:=by
   unfold qGp
   rcases nx with ⟨_,_⟩|⟨_,_⟩<;>rcases ny with ⟨_,_⟩|⟨_,_⟩<;>grind
  rw [if_neg nc,if_pos c.2]
  by_cases k:x<s
  ·have cr:qGp (qAb Q1) x y:=by
    unfold qGp
    rw [e1,e1]
    rcases nx with ⟨s1,s2⟩|⟨s1,s2⟩
    ·left
     have t:0<qAb Q y:=by rcases ny with ⟨_,h⟩|⟨_,h⟩<;>grind
     have:=Rat.mul_pos (show 0<s-x by grind) s2
     have:=Rat.mul_nonneg (show 0≤y-s by grind) (Rat.le_of_lt t)
     constructor<;>grind
    ·right
     have t:qAb Q y<0:=by rcases ny with ⟨_,h⟩|⟨_,h⟩<;>grind
     have:=Rat.mul_pos (show 0<s-x by grind) (show 0< -(qAb Q x) by grind)
     have:=Rat.mul_nonneg (show 0≤y-s by grind) (show 0≤ -(qAb Q y) by grind)
     constructor<;>grind
   rw [if_pos cr,if_neg (by grind)];omega
  ·have:x=s:=by grind
   subst this
   have nc1:¬qGp (qAb Q1) x y:=by
    unfold qGp
    rw [e1,Rat.sub_self,Rat.zero_mul]
    grind
   rw [if_neg nc1,if_pos Rat.le_refl];omega
 ·obtain ⟨k1,k2⟩:=same_side hxy c
  have cs:=cross_same (f:=qAb Q1) (g:=qAb Q) k1 (e1 x) (e1 y)
  have ei:(if s≤y then (1:Int) else 0)=if s≤x then 1 else 0:=by
   by_cases h:s≤y
   ·rw [if_pos h,if_pos (k2.1 h)]
   ·rw [if_neg h,if_neg (fun e=>h (k2.2 e))]
  rw [ei]
  by_cases h:qGp (qAb Q) x y
  ·rw [if_pos h,if_pos (cs.2 h)];omega
  ·rw [if_neg h,if_neg (fun e=>h (cs.1 e))];omega
def quoP(p:List Rat):List Rat:=(divP p (gcdP p (derP p))).1
def cntC(ch:List Rat->List Rat)(p:List Rat)(a b:Rat):Int:=if a<b then vrs ((qBf ch ((quoP p).length+1) (quoP p) (derP (quoP p))).map qAb) a-vrs ((qBf ch ((quoP p).length+1) (quoP p) (derP (quoP p))).map qAb) b else 0
theorem quo_tr{p:List Rat}(tp:Tr p)(p0:p≠[]):Tr (quoP p)∧Bez (quoP p) (derP (quoP p)):=by
 obtain ⟨g1,g2⟩:=qEo tp (qAl (derC p))
 exact ⟨(qBy tp g1 (g2 (.inl p0)).1).1,qQb tp p0⟩
theorem qQc{p:List Rat}(tp:Tr p)(p0:p≠[])(s:Rat):qAb (quoP p) s=0↔qAb p s=0:=by
 have h:=qGh tp p0 s
 exact ⟨fun e=>by rw [h,show (divP p (gcdP p (derP p))).1=quoP p from rfl,e,Rat.zero_mul],fun e=>root_keep tp p0 (qGh tp p0) e⟩
theorem wo_cnt{ch:List Rat->List Rat}(hc:ChS ch){p:List Rat}{s:Rat}{n:Nat}(tp:Tr p)(p0:p≠[])(hn:p.length≤n)(a b:Rat):cntC ch p a b=cntC ch (woP n p s) a b+(if qAb p s=0∧a<s∧s≤b then 1 else 0):=by
 obtain ⟨w1,w2,w3,w4,j,w5⟩:=qFd n (s:=s) tp p0 hn
 cases j with
 |zero=>
  have e:p=woP n p s:=tp.ext w1 (qA0 fun x=>by rw [w5 x,Rat.pow_zero,Rat.one_mul])
  have hz:qAb p s≠0:=by rw [w5 s,Rat.pow_zero,Rat.one_mul];exact w3
  rw [←e,if_neg (fun h=>hz h.1)]
  omega
 |succ j=>
  have hz:qAb p s=0:=by rw [w5 s,Rat.pow_succ,Rat.sub_self,Rat.mul_zero,Rat.zero_mul]
  unfold cntC
  by_cases h:a<b
  ·rw [if_pos h,if_pos h]
   have eq:=quo_factor w1 w2 w3 tp w5
   obtain ⟨t1,b1⟩:=quo_tr tp p0
   obtain ⟨t2,b2⟩:=quo_tr w1 w2
   have hs:qAb (quoP (woP n p s)) s≠0:=fun e=>w3 ((qQc w1 w2 s).1 e)
   have ev:∀x,qAb (quoP p) x=(x-s)*qAb (quoP (woP n p s)) x:=fun x=>by
    show qAb (divP p (gcdP p (derP p))).1 x=_
    rw [eq]
    unfold mulT
    rw [qAp,qAg,qD4];rfl
   rw [cnt_factor hc t2 b2 t1 b1 hs ev (n:=(quoP (woP n p s)).length+1) (n1:=(quoP p).length+1) (Nat.lt_succ_self _) (Nat.lt_succ_self _) h]
   by_cases c1:s≤a
   ·rw [if_pos c1,if_pos (by grind),if_neg (by grind)];omega
   ·by_cases c2:s≤b
    ·rw [if_neg c1,if_pos c2,if_pos ⟨hz,by grind,c2⟩];omega
    ·rw [if_neg c1,if_neg c2,if_neg (fun e=>c2 e.2.2)];omega
  ·rw [if_neg h,if_neg h,if_neg (by grind)];rfl
theorem qSl{ch:List Rat->List Rat}(hc:ChS ch){p:List Rat}(tp:Tr p)(p0:p≠[])(a b:Rat):0≤cntC ch p a b:=by
 obtain ⟨t1,b1⟩:=quo_tr tp p0
 unfold cntC
 split
 ·rename_i h
  have:=vrs_le hc t1 b1 (n:=(quoP p).length+1) (Nat.lt_succ_self _) h
  omega
 ·exact Int.le_refl 0
theorem cntC_add{ch:List Rat->List Rat}(p:List Rat){a m b:Rat}(h1:a<m)(h2:m<b):cntC ch p a m+cntC ch p m b=cntC ch p a b:=by
 unfold cntC
 rw [if_pos h1,if_pos h2,if_pos (by grind)]
 omega
theorem qJa{ch:List Rat->List Rat}(hc:ChS ch){p:List Rat}(tp:Tr p)(p0:p≠[]){a b s:Rat}(h1:a<s)(h2:s≤b)(hs:qAb p s=0):1≤cntC ch p a b:=by
 obtain ⟨w1,w2,_⟩:=qFd p.length (s:=s) tp p0 (Nat.le_refl _)
 rw [wo_cnt hc (s:=s) tp p0 (Nat.le_refl _),if_pos ⟨hs,h1,h2⟩]
 have:=qSl hc w1 w2 a b
 omega
theorem Iso.has{ch:List Rat->List Rat}(hc:ChS ch){p:List Rat}(tp:Tr p)(p0:p≠[]){x:I2}{l:List I2}(h:Iso (cntC ch p) x l){s:Rat}(h1:x.1<s)(h2:s≤x.2)(hs:qAb p s=0):∃y∈l,y.1<s∧s≤y.2:=by
 induction h with
 |zero h=>
  have:=qJa hc tp p0 h1 h2 hs
  omega
 |one h=>exact ⟨_,List.mem_singleton.2 rfl,h1,h2⟩
 |two h0 h1' _ _ i1 i2=>
  rename_i x l m _ _
  by_cases c:s≤mid2 x
  ·obtain ⟨y,hy,k⟩:=i1 h1 c
   exact ⟨y,List.mem_append.2 (.inl hy),k⟩
  ·obtain ⟨y,hy,k⟩:=i2 (show mid2 x<s by grind) h2
   exact ⟨y,List.mem_append.2 (.inr hy),k⟩
theorem addC_len:∀p q:List Rat,(addC p q).length=max p.length q.length
 |[],q=>by simp [addC]
 |a::p,[]=>by simp [addC]
 |a::p,b::q=>by
  have:=addC_len p q
  simp only [addC,List.length_cons,this]
  omega
theorem subC_len(p q:List Rat):(subC p q).length=max p.length q.length:=by
 unfold subC
 rw [addC_len,show (negC q).length=q.length from qBd _ _]
theorem qG0:∀p q:List Rat,(mulC p q).length≤p.length+q.length
 |[],q=>by simp [mulC]
 |a::p,q=>by
  have:=qG0 p q
  simp only [mulC,addC_len,qBd,List.length_cons]
  omega
theorem ht_c1:HtP 2 [(1:Rat)]:=⟨1,fun i=>match i with|0=>1|_+1=>0,by decide,by show ln 1<2;rw [qKw];decide,fun i=>match i with
    |0=>⟨by show ln 1<2;rw [qKw];decide,by decide+kernel⟩
    |i+1=>⟨by show ln 0<2;rw [qF7];decide,(Rat.zero_divInt 1).symm⟩⟩
theorem ht_c{k:Nat}{s:Rat}(h:okQ k s):HtP (2+k) [s]:=by
 have:=ht_c1.smul h
 have e:smul s [(1:Rat)]=[s]:=by show [s*1]=[s];rw [Rat.mul_one]
 rwa [e] at this
theorem ht_lin{k:Nat}{s:Rat}(h:okQ k s)(hk:1<k):HtP k [-s,1]:=by
 refine (qUn hk h).neg.eqv fun i=>?_
 match i with
 |0=>show-s= -1*s;grind
 |1=>show (1:Rat)= -1* -1;grind
 |i+2=>rfl
end Go.Vw
namespace Go.Proofs.YtejigedigmagdaaGreat
open Go.Vw
attribute [local irreducible] awp awpL awpR
theorem qRd(p q:List Rat)(hp:p.length≤400)(hq:q.length≤400)(kp:∀x∈p,okQ 1000000 x)(kq:∀x∈q,okQ 1000000 x):Ret Tryz.prog 102 [qsD p,qsD q] (·=qsD (qAd (subC p q))):=by
 have h:=qLx (p.map rq) (q.map rq) (by rw [List.length_map];omega) (by rw [List.length_map];omega) (qBq fun x hx=>(kp x hx).mono (by decide)) (qBq fun x hx=>(kq x hx).mono (by decide))
 rw [qAf,qAf] at h
 exact h.args (qCw p (qCw q (LeT.refl _)))
theorem qRg(p q:List Rat)(hp:p.length≤400)(hq:q.length≤400)(kp:∀x∈p,okQ 1000000 x)(kq:∀x∈q,okQ 1000000 x):Ret Tryz.prog 104 [qsD p,qsD q] (·=qsD (qAd (addC p q))):=by
 have h:=qS6 (p.map rq) (q.map rq) (by rw [List.length_map];omega) (by rw [List.length_map];omega) (qBq fun x hx=>(kp x hx).mono (by decide)) (qBq fun x hx=>(kq x hx).mono (by decide))
 rw [qAf,qAf] at h
 exact h.args (qCw p (qCw q (LeT.refl _)))
theorem qP1(p:List Rat)(hp:p.length≤400)(kp:∀x∈p,okQ 1000000 x):Ret Tryz.prog 149 [qsD p] (·=qsD (qAd p)):=by
 have h:=qBb (p.map rq) (by rw [List.length_map];omega) (qBq fun x hx=>(kp x hx).mono (by decide))
 rw [qAf] at h
 exact h.args (qCw p (LeT.refl _))
theorem qFk(p:List Rat)(hp:p.length≤400)(kp:∀x∈p,okQ 1000000 x):Ret Tryz.prog 101 [qsD p] (·=qsD (qAd p)):=by
 have h:=qP1 p hp kp
 generalize qAd p=q at *
 clear kp
 refine qAa tab Tryz.func101 rfl rfl (lblz rfl) (fun w0 F0=>?_)
 repeat' (first|refine wG ?_|refine wC h ?_|refine wS ?_ ?_<;>intro _|refine finG ?_)
 rfl
theorem qSs(x:List Rat)(v r t:Rat):actF (x++[v]) r t=actF x r t++(if absQ (v-t)<r then [v] else []):=by
 unfold actF
 rw [List.filter_append,List.filter_cons]
 by_cases h:absQ (v-t)<r
 ·rw [if_pos h,decide_eq_true h];rfl
 ·rw [if_neg h,decide_eq_false h];rfl
theorem act_len(x:List Rat)(r t:Rat):(actF x r t).length≤x.length:=List.length_filter_le _ _
theorem act_mem{x:List Rat}{r t v:Rat}(h:v∈actF x r t):v∈x:=(List.mem_filter.1 h).1
theorem qFh(p q:List Rat){h:Nat}(hp:p.length≤100)(hq:q.length≤100)(kp:HtP h p)(kq:HtP h q)(h1:1<h)(hb:h*(2*p.length+3)≤10000000):Ret Tryz.prog 103 [qsD p,qsD q] (·=qsD (mulT p q)):=by
 have h:=qS4 (p.map rq) (q.map rq) h (by rw [List.length_map];exact hp) (by rw [List.length_map];exact hq) (qBq kp.okL) (qBq kq.okL) h1 (by rw [List.length_map];exact hb)
 rw [qAf,qAf] at h
 exact h.args (qCw p (qCw q (LeT.refl _)))
theorem eq_step{l A:List Rat}{v sq:Rat}(hv:okQ 100 v)(hs:okQ 300 sq)(eA:A=eqP l sq)(lA:A.length≤6)(oA:∀y∈A,okQ 1000000 y):∃R S Z U W WW RW,Ret Tryz.prog 101 [qsD [v,((-1:Int):Rat)]] (·=qsD R)∧Ret Tryz.prog 101 [qsD [((1:Int):Rat)]] (·=qsD Z)∧Ret Tryz.prog 101 [qsD [sq]] (·=qsD S)∧Ret Tryz.prog 103 [qsD R,qsD R] (·=qsD U)∧(∃SU,Ret Tryz.prog 103 [qsD S,qsD U] (·=qsD SU)∧Ret Tryz.prog 102 [qsD Z,qsD SU] (·=qsD W))∧Ret Tryz.prog 103 [qsD W,qsD W] (·=qsD WW)∧Ret Tryz.prog 103 [qsD R,qsD WW] (·=qsD RW)∧Ret Tryz.prog 104 [qsD A,qsD RW] (·=qsD (eqP (l++[v]) sq)):=by
 have e1:((-1:Int):Rat)= -1:=rfl
 have e2:((1:Int):Rat)=1:=rfl
 rw [e1,e2]
 have hR:=(qUn (k:=100) (by decide) hv).trim
 have lR:=qAu [v, -1]
 have h1:HtP 2 [(1:Rat)]:=ht_c1
 have hS:HtP 303 [sq]:=(ht_c hs).mono (by decide)
 have lS:=qAu [sq]
 simp only [List.length_cons,List.length_nil] at lR lS
 have k2:∀y∈[v, -1],okQ 1000000 y:=fun y hy=>((qUn (k:=100) (by decide) hv).okL y hy).mono (by decide)
 obtain ⟨R,eR⟩:∃R,qAd [v, -1]=R:=⟨_,rfl⟩
 obtain ⟨S,eS⟩:∃S,qAd [sq]=S:=⟨_,rfl⟩
 have c1:=qFk [v, -1] (Nat.le_add_left 2 398) k2
 have c2:=qFk [1] (by decide) (fun y hy=>(h1.okL y hy).mono (by decide))
 have c3:=qFk [sq] (Nat.le_add_left 1 399) (fun y hy=>(hS.okL y hy).mono (by decide))
 have hS:=hS.trim
 have t1:qAd [(1:Rat)]=[1]:=by decide+kernel
 rw [eR] at hR lR c1
 rw [eS] at hS lS c3
 rw [t1] at c2
 have hU:=(hR.mul hR).trim
 have lU:(mulT R R).length≤4:=by
  have:=qG0 R R
  have:=qAu (mulC R R)
  unfold mulT;omega
 have m1:=qFh R R (h:=100) (by omega) (by omega) hR hR (by decide) (by omega)
 have hU:HtP 303 (mulT R R):=hU.mono (by omega)
 have m2:=qFh S (mulT R R) (h:=303) (by omega) (by omega) hS hU (by decide) (by omega)
 have hSU:HtP 700 (mulT S (mulT R R)):=(hS.mul hU).trim.mono (by omega)
 have lSU:(mulT S (mulT R R)).length≤5:=by
  have:=qG0 S (mulT R R)
  have:=qAu (mulC S (mulT R R))
  unfold mulT at *;omega
 have s1:=qRd [1] (mulT S (mulT R R)) (by decide) (by omega) (fun y hy=>(h1.okL y hy).mono (by decide)) (fun y hy=>(hSU.okL y hy).mono (by decide))
 have hW:HtP 800 (qAd (subC [1] (mulT S (mulT R R)))):=(h1.sub hSU).trim.mono (by omega)
 have lW:(qAd (subC [1] (mulT S (mulT R R)))).length≤5:=by
  have:=qAu (subC [1] (mulT S (mulT R R)))
  rw [subC_len] at this
  simp only [List.length_cons,List.length_nil] at this
  omega
 have eW:∀x,qAb (qAd (subC [1] (mulT S (mulT R R)))) x=1-sq*((v-x)*(v-x)):=fun x=>by
  rw [qAp,qEj,←eS,←eR]
  unfold mulT
  rw [qAp,qAg,qAp,qAp,qAg,qAp,ev_res,qJ8]
  have:qAb [sq] x=sq:=by simp only [qAb];grind
  rw [this]
 generalize qAd (subC [1] (mulT S (mulT R R)))=W at *
 have m3:=qFh W W (h:=800) (by omega) (by omega) hW hW (by decide) (by omega)
 have hWW:HtP 2000 (mulT W W):=(hW.mul hW).trim.mono (by omega)
 have lWW:(mulT W W).length≤10:=by
  have:=qG0 W W
  have:=qAu (mulC W W)
  unfold mulT;omega
 have m4:=qFh R (mulT W W) (h:=2000) (by omega) (by omega) (hR.mono (by decide)) hWW (by decide) (by omega)
 have hRW:HtP 4000 (mulT R (mulT W W)):=((hR.mul hWW).trim).mono (by omega)
 have lRW:(mulT R (mulT W W)).length≤20:=by
  have:=qG0 R (mulT W W)
  have:=qAu (mulC R (mulT W W))
  unfold mulT at *;omega
 have a1:=qRg A (mulT R (mulT W W)) (by omega) (by omega) oA (fun y hy=>(hRW.okL y hy).mono (by decide))
 have eE:qAd (addC A (mulT R (mulT W W)))=eqP (l++[v]) sq:=eqP_of (qAl _) fun t=>by
  rw [qAp,qBh,eA,ev_eqP,qM1]
  unfold mulT
  rw [qAp,qAg,qAp,qAg,eW,←eR,qAp,ev_res]
  rfl
 rw [eE] at a1
 exact ⟨R,S,[1],_,W,_,_,c1,c2,c3,m1,⟨_,m2,s1⟩,m3,m4,a1⟩
theorem qRs(x:List Rat)(r qGk:Rat)(hl:x.length≤6)(hx:∀v∈x,okQ 100 v)(or:okQ 100 r)(op:okQ 1000 qGk)(r0:r≠0):Ret Tryz.prog 54 [qsD x,qD r,qD qGk] (·=qsD (eqP (actF x r qGk) (1/(r*r)))):=by
 have og:∀i,okQ 100 (x.getD i 0):=fun i=>qCv hx (by decide) i
 have orr:okQ 200 (r*r):=or.mul or
 have rr0:r*r≠0:=fun e=>by rcases Rat.mul_eq_zero.1 e with h|h<;>exact r0 h
 have osq:okQ 203 (1/(r*r)):=((okQ_one.mono (show _≤3 by decide)).div orr rr0).mono (by decide)
 have f1:=qB1 1 (by decide) (by decide)
 have fm:=qB1 (-1) (by decide) (by decide)
 have m0:=qJf r r (or.mono (by decide)) (or.mono (by decide))
 have d0:=qGy ((1:Int):Rat) (r*r) ((qF6 (by decide)).mono (by decide)) (orr.mono (by decide))
 rw [if_neg rr0,show ((1:Int):Rat)/(r*r)=1/(r*r) from rfl] at d0
 generalize hsq:1/(r*r)=sq at *
 obtain ⟨A,hA⟩:∃A:Nat->List Rat,∀i,A i=eqP (actF (x.take i) r qGk) sq:=⟨fun i=>eqP (actF (x.take i) r qGk) sq,fun _=>rfl⟩
 have a0:A 0=[]:=by rw [hA];rfl
 have lA:∀i,(A i).length≤6:=fun i=>by rw [hA];exact qHn _ _
 have oA:∀i,∀y∈A i,okQ 1000000 y:=fun i y hy=>by
  rw [hA] at hy
  have h:=(ht_eqP (k:=100) (by decide) osq (l:=actF (x.take i) r qGk) (fun v hv=>hx v (List.mem_of_mem_take (act_mem hv)))).trim
  refine (h.okL y hy).mono ?_
  have h1:=act_len (x.take i) r qGk
  rw [List.length_take] at h1
  have:=Nat.mul_le_mul_right (20+5*100+2*203) (show (actF (x.take i) r qGk).length≤64 by omega)
  omega
 have sA:∀i,i<x.length->A (i+1)=if absQ (x.getD i 0-qGk)<r then eqP (actF (x.take i) r qGk++[x.getD i 0]) sq else A i:=fun i hi=>by
  rw [hA,hA,show x.take (i+1)=x.take i++[x.getD i 0] by rw [List.take_add_one,List.getD_eq_getElem?_getD,List.getElem?_eq_getElem hi];rfl,qSs]
  split
  ·rfl
  ·rw [List.append_nil]
 rw [show eqP (actF x r qGk) sq=A x.length by rw [hA,List.take_of_length_le (Nat.le_refl _)]]
 clear hx
 refine qAa tab Tryz.func54 rfl rfl (lblz rfl) (fun w0 F0=>?_)
 repeat' (first|refine wG ?_|refine wC f1 ?_|refine wC m0 ?_|refine wC d0 ?_|refine rgK 2 10 [8] ?_|refine rg 7 2 ?_|refine rg 8 8 ?_|refine wS ?_ ?_<;>intro _|refine finG ?_)
 refine qJx 7 3 qC 0 rfl ?_
 refine qAi (fun (i:Nat)=>([(0,.d (qsD x)),(4,.ptr 4 0),(5,.ptr 5 0),(7,.d (qsD (A i))),(8,.ptr 8 0),(22,.d (qsD x)),(23,.d (.int .i64 x.length)),(24,.d (.int .i64 i))],[(4,.box 27 ((rC (rq r)).map V.d)),(5,.box 27 ((rC (rq qGk)).map V.d)),(8,.box 27 ((rC (rq sq)).map V.d))])) (fun i=>i≤x.length) (fun i=>x.length-i) 0 (by omega) ⟨rfl,rfl,rfl,(by rw [a0];rfl),rfl,rfl,rfl,rfl,rfl⟩ ⟨rfl,rfl,rfl,trivial⟩ (fun i hi=>?_)
 by_cases h3:i<x.length
 ·have n1:=qRr (x.getD i 0) qGk r ((og i).mono (by decide)) (op.mono (by decide)) (or.mono (by decide))
  have st:=sA i h3
  by_cases c:absQ (x.getD i 0-qGk)<r
  ·rw [decide_eq_true c] at n1
   rw [if_pos c] at st
   obtain ⟨R,S,Z,U,W,WW,RW,c1,c2,c3,m1,⟨SU,m2,s1⟩,m3,m4,a1⟩:=eq_step (og i) (osq.mono (by decide)) (hA i) (lA i) (oA i)
   rw [←st] at a1
   clear oA lA sA og hA
   repeat' (first|refine wG ?_|refine wC n1 ?_|refine wC f1 ?_|refine wC fm ?_|refine wC c1 ?_|refine wC c2 ?_|refine wC c3 ?_|refine wC m1 ?_|refine wC m2 ?_|refine wC s1 ?_|refine wC m3 ?_|refine wC m4 ?_|refine wC a1 ?_|refine rgK 2 10 [8] ?_|refine rg 7 2 ?_|refine rg 8 8 ?_|refine wS ?_ ?_<;>intro _|refine finG ?_)
   exact ⟨i+1,by omega,by omega,⟨rfl,rfl,rfl,rfl,rfl,rfl,rfl,iv (by omega),rfl⟩,rfl,rfl,rfl,trivial⟩
  ·rw [decide_eq_false c] at n1
   rw [if_neg c] at st
   clear oA lA sA og
   repeat' (first|refine wG ?_|refine wC n1 ?_|refine rgK 2 10 [8] ?_|refine rg 7 2 ?_|refine rg 8 8 ?_|refine wS ?_ ?_<;>intro _|refine finG ?_)
   exact ⟨i+1,by omega,by omega,⟨rfl,rfl,rfl,(by rw [st];rfl),rfl,rfl,rfl,iv (by omega),rfl⟩,rfl,rfl,rfl,trivial⟩
 ·have e:i=x.length:=by omega
  subst e
  clear oA lA sA og
  repeat' (first|refine wG ?_|refine rgK 2 10 [8] ?_|refine rg 7 2 ?_|refine rg 8 8 ?_|refine wS ?_ ?_<;>intro _|refine finG ?_)
  rfl
theorem rational_NegQ(x:Rat)(hx:okQ 10000000 x):Ret Tryz.prog 92 [qD x] (·=qD (-x)):=by
 have h:=qH0 (rq x) (qAs hx)
 rwa [qAw] at h
theorem tr_lin1(s:Rat):qAd [-s,1]=[-s,1]:=qAr (tr_lin s)
theorem qLz(p:List Rat)(s:Rat){h:Nat}(tp:Tr p)(p0:p≠[])(lp:p.length≤6)(hp:HtP h p)(hh:h≤100000)(os:okQ 1000 s)(n:Nat)(hn:p.length≤n):Ret Tryz.prog 105 [qsD p,qD s] (·=qsD (woP n p s)):=by
 have ng:=rational_NegQ s (os.mono (by decide))
 have f1:=qB1 1 (by decide) (by decide)
 have e2:((1:Int):Rat)=1:=rfl
 rw [e2] at f1
 have hl:HtP 1000 [-s,1]:=ht_lin os (by decide)
 have c1:=qFk [-s,1] (Nat.le_add_left 2 398) (fun y hy=>(hl.okL y hy).mono (by decide))
 rw [tr_lin1] at c1
 obtain ⟨t1,t2⟩:=lin_tr s
 obtain ⟨W,hW⟩:∃W,woP n p s=W:=⟨_,rfl⟩
 rw [hW]
 refine qAa tab Tryz.func105 rfl rfl (lblz rfl) (fun w0 F0=>?_)
 repeat' (first|refine wG ?_|refine wS ?_ ?_<;>intro _|refine finG ?_)
 refine qB2 (fun (P:List Rat) (m:Nat)=>([(0,.d (qsD P)),(3,.ptr 3 0),(4,.d .nils)],[(3,.box 27 ((rC (rq s)).map V.d))])) (fun P m=>Tr P∧P≠[]∧P.length≤m∧P.length≤6∧woP m P s=W∧HtP (100000+(6-P.length)*10000) P) (fun P m=>P.length) p n ⟨tp,p0,hn,lp,hW,hp.mono (by omega)⟩ ⟨rfl,rfl,rfl,rfl⟩ ⟨rfl,trivial⟩ (fun P m hP=>?_)
 obtain ⟨a1,a2,a3,a4,a5,a6⟩:=hP
 obtain ⟨m,rfl⟩:∃k,m=k+1:=⟨m-1,by have:=qA2 a2;omega⟩
 have q1:=Nat.mul_le_mul_right 1000 (show P.length+1- [-s,1].length≤6 by simp only [List.length_cons,List.length_nil];omega)
 have q2:=Nat.mul_le_mul_right 10000 (show 6-P.length≤6 by omega)
 have d1:=qHg P [-s,1] a1 t1 t2 (by omega) (Nat.le_add_left 2 98) a6 hl (by omega)
 have hq:=divP_ht a1 t1 t2 a6 hl
 unfold woP at a5
 by_cases c:(divP P [-s,1]).2=[]
 ·rw [if_pos c] at a5
  obtain ⟨b1,b2,b3⟩:=quo_lin a1 a2 c
  have lc:(divP P [-s,1]).2.length=0:=by rw [c];rfl
  generalize (divP P [-s,1]).1=Q at *
  generalize (divP P [-s,1]).2=R at *
  clear c
  repeat' (first|refine wG ?_|refine wC ng ?_|refine wC f1 ?_|refine wC c1 ?_|refine wC d1 ?_|refine wS ?_ ?_<;>intro _|refine finG ?_)
  exact ⟨Q,m,⟨b1,b2,by omega,by omega,a5,hq.mono (by
   have:(6-Q.length)*10000=(6-P.length)*10000+10000:=by rw [show 6-Q.length=(6-P.length)+1 by omega,Nat.add_mul,Nat.one_mul]
   omega)⟩,by omega,⟨rfl,rfl,rfl,rfl⟩,rfl,trivial⟩
 ·rw [if_neg c] at a5
  have lc:=qA2 c
  generalize (divP P [-s,1]).1=Q at *
  generalize (divP P [-s,1]).2=R at *
  rw [←a5]
  clear c a5
  repeat' (first|refine wG ?_|refine wC ng ?_|refine wC f1 ?_|refine wC c1 ?_|refine wC d1 ?_|refine wS ?_ ?_<;>intro _|refine finG ?_)
  rfl
theorem flatL_step{s:List Rat}{r:Rat}{p:Nat}(h0:0<p)(hp:p<s.length):qTe r (s.take (p+1))=qTe r (s.take p)++(if s.getD (p-1) 0+r≤s.getD p 0-r then [(s.getD (p-1) 0+r,s.getD p 0-r)] else []):=by
 have e:s.take (p+1)=s.take p++[s.getD p 0]:=by
  rw [List.take_add_one,List.getD_eq_getElem?_getD,List.getElem?_eq_getElem hp];rfl
 have hne:s.take p≠[]:=fun e=>by
  have:=congrArg List.length e
  rw [List.length_take,List.length_nil] at this
  omega
 have hl:(s.take p).getLastD 0=s.getD (p-1) 0:=by
  rw [List.getLastD_eq_getLast?,List.getLast?_eq_getElem?,List.length_take,List.getElem?_take,if_pos (by omega),show min p s.length-1=p-1 by omega]
  rw [List.getD_eq_getElem?_getD]
 rw [e,←hl]
 match h:s.take p,hne with
 |a::l,_=>
  show qEp r a (l++[s.getD p 0])=qEp r a l++_
  rw [qOy]
theorem qTd(a b:Rat)(ha:okQ 500000 a)(hb:okQ 500000 b):Ret Tryz.prog 100 [qD a,qD b] (·=if b<a then .tup [iD r0 r0,.int .i64 1] else .tup [iQ (a,b),.int .i64 0]):=by
 have h:=interval_Make (rq a) (rq b) (qAs ha) (qAs hb)
 rwa [qAw,qAw] at h
def qCi(x:List Rat)(r:Rat):List I2:=qTe r (cmpL (srt x))
theorem flatF_len(r:Rat):∀(l:List Rat) (a:Rat),(qEp r a l).length≤l.length
 |[],a=>Nat.le_refl _
 |b::l,a=>by
  have:=flatF_len r l b
  unfold qEp
  split
  ·simp only [List.length_cons];omega
  ·simp only [List.length_cons];omega
theorem qNw(r:Rat)(l:List Rat):(qTe r l).length≤l.length:=by
 cases l with
 |nil=>exact Nat.le_refl _
 |cons a l=>have:=flatF_len r l a;show (qEp r a l).length≤l.length+1;omega
theorem mroots_flats(x:List Rat)(r:Rat)(hl:x.length≤6)(hx:∀v∈x,okQ 100 v)(or:okQ 100 r):Ret Tryz.prog 53 [qsD x,qD r] (·=isD (qCi x r)):=by
 have as_:=qJ5 x (by omega) (fun v hv=>(hx v hv).mono (by decide))
 have og:∀i,okQ 100 ((cmpL (srt x)).getD i 0):=fun i=>qCv (fun y hy=>hx y ((qD3 x).subset (cmpL_mem.1 hy))) (by decide) i
 have sl:(cmpL (srt x)).length≤64:=Nat.le_trans (qIa _) (by rw [qE2];omega)
 unfold qCi
 generalize cmpL (srt x)=s at *
 obtain ⟨E,hE⟩:∃E:Nat->List I2,∀i,E i=qTe r (s.take i):=⟨fun i=>qTe r (s.take i),fun _=>rfl⟩
 have e1:E 1=[]:=by
  rw [hE]
  match s with
  |[]=>rfl
  |a::l=>rfl
 have eS:∀i,0<i->i<s.length->E (i+1)=E i++(if s.getD (i-1) 0+r≤s.getD i 0-r then [(s.getD (i-1) 0+r,s.getD i 0-r)] else []):=fun i h0 hi=>by rw [hE,hE];exact flatL_step h0 hi
 have eL:∀i,(E i).length≤64:=fun i=>by
  rw [hE]
  have:=qNw r (s.take i)
  rw [List.length_take] at this
  omega
 have eN:∀i,s.length≤i->E i=qTe r s:=fun i hi=>by rw [hE,List.take_of_length_le hi]
 obtain ⟨F,hF⟩:∃F,qTe r s=F:=⟨_,rfl⟩
 rw [hF] at eN ⊢
 clear hE hx
 refine qAa tab Tryz.func53 rfl rfl (lblz rfl) (fun w0 F0=>?_)
 repeat' (first|refine wG ?_|refine wC as_ ?_|refine rgK 6 19 [8] ?_|refine wS ?_ ?_<;>intro _|refine finG ?_)
 refine qB3 5 500 32 6 qiC (0,0) rfl ?_
 refine qAi (fun (i:Nat)=>([(0,.d (qsD x)),(3,.ptr 3 0),(5,iO 500 (E i).length),(6,.d (qsD s)),(7,.d (.int .i64 i))],[(3,.box 27 ((rC (rq r)).map V.d)),(500,iB (E i))])) (fun i=>1≤i∧(i≤s.length∨i=1)) (fun i=>s.length-i) 1 ⟨by omega,.inr rfl⟩ ⟨rfl,rfl,qEn (by rw [e1];rfl),rfl,rfl,rfl⟩ ⟨rfl,qBr (by rw [e1]),trivial⟩ (fun i hi=>?_)
 have hel:=eL i
 by_cases h3:i<s.length
 ·have e0:((i:Int)-1).toNat=i-1:=by omega
  have st:=eS i hi.1 h3
  rw [←e0] at st
  have oa:=(og ((i:Int)-1).toNat).add or
  have ob:=(og i).sub or
  have a1:=qFg (s.getD ((i:Int)-1).toNat 0) r ((og _).mono (by decide)) (or.mono (by decide))
  have s1:=qDl (s.getD i 0) r ((og i).mono (by decide)) (or.mono (by decide))
  have m1:=qTd (s.getD ((i:Int)-1).toNat 0+r) (s.getD i 0-r) (oa.mono (by decide)) (ob.mono (by decide))
  have hi1:=hi.1
  by_cases c:s.getD i 0-r<s.getD ((i:Int)-1).toNat 0+r
  ·rw [if_pos c] at m1
   rw [if_neg (by grind),List.append_nil] at st
   generalize s.getD ((i:Int)-1).toNat 0+r=lo at *
   generalize s.getD i 0-r=hi' at *
   clear og eS eL eN oa ob c
   repeat' (first|refine wG ?_|refine wC a1 ?_|refine wC s1 ?_|refine wC m1 ?_|refine rgK 6 19 [8] ?_|refine wS ?_ ?_<;>intro _|refine finG ?_)
   exact ⟨i+1,⟨by omega,by omega⟩,by omega,⟨rfl,rfl,qEn (by rw [st]),rfl,iv (by omega),rfl⟩,rfl,qBr (by rw [st]),trivial⟩
  ·rw [if_neg c] at m1
   rw [if_pos (by grind)] at st
   generalize s.getD ((i:Int)-1).toNat 0+r=lo at *
   generalize s.getD i 0-r=hi' at *
   clear og eS eL eN oa ob c
   repeat' (first|refine wG ?_|refine wC a1 ?_|refine wC s1 ?_|refine wC m1 ?_|refine rgK 6 19 [8] ?_|refine wS ?_ ?_<;>intro _|refine finG ?_)
   exact ⟨i+1,⟨by omega,by omega⟩,by omega,⟨rfl,rfl,qEn (by rw [st]),rfl,iv (by omega),rfl⟩,rfl,qBr (by rw [st]),trivial⟩
 ·have ef:=eN i (by omega)
  clear og eS eL eN
  rw [ef]
  rw [ef] at hel
  repeat' (first|refine wG ?_|refine rgK 6 19 [8] ?_|refine wS ?_ ?_<;>intro _|refine finG ?_)
  rfl
def qNv(last to width:Rat)(x:I2):Bool:=decide (last<x.1)&&decide (x.2<to)&&decide (x.2-x.1≤width)
theorem cmp_lt{x y:Rat}:cmpQ x y<0↔x<y:=by
 unfold cmpQ
 split
 ·constructor<;>intro<;>first|assumption|decide
 ·split<;>constructor<;>intro h<;>first|exact absurd h (by decide)|contradiction
theorem cmp_le{x y:Rat}:cmpQ x y≤0↔x≤y:=by
 unfold cmpQ
 split
 ·constructor<;>intro<;>first|grind|decide
 ·split<;>constructor<;>intro h<;>first|exact absurd h (by decide)|grind|decide
theorem qIb(last to width:Rat)(x:I2)(hx:x.1≤x.2)(ox:okI 150000 x)(ol:okQ 150000 last)(ot:okQ 150000 to)(ow:okQ 150000 width):RetB Tryz.prog 108 [.d (iQ x),.ptr 600 0,.ptr 601 0,.ptr 602 0] (qAh [(600,.box 27 ((rC (rq last)).map V.d)),(601,.box 27 ((rC (rq to)).map V.d)),(602,.box 27 ((rC (rq width)).map V.d))]) (.d (.bool (qNv last to width x))) (qAh [(600,.box 27 ((rC (rq last)).map V.d)),(601,.box 27 ((rC (rq to)).map V.d)),(602,.box 27 ((rC (rq width)).map V.d))]):=by
 have c1:=qBk last x.1 (ol.mono (by decide)) (ox.1.mono (by decide))
 have c2:=qBk x.2 to (ox.2.mono (by decide)) (ot.mono (by decide))
 have w1:=qRz x ox hx
 have od:okQ 300000 (x.2-x.1):=(ox.2.sub ox.1).mono (by decide)
 have c3:=qBk (x.2-x.1) width (od.mono (by decide)) (ow.mono (by decide))
 have e:qNv last to width x=(decide (cmpQ last x.1<0)&&decide (cmpQ x.2 to<0)&&decide (cmpQ (x.2-x.1) width≤0)):=by
  unfold qNv
  rw [decide_eq_decide.2 (cmp_lt (x:=last) (y:=x.1)),decide_eq_decide.2 (cmp_lt (x:=x.2) (y:=to)),decide_eq_decide.2 (cmp_le (x:=x.2-x.1) (y:=width))]
 rw [e]
 generalize cmpQ last x.1=k1 at *
 generalize cmpQ x.2 to=k2 at *
 generalize cmpQ (x.2-x.1) width=k3 at *
 generalize x.2-x.1=d at *
 clear e ox ol ot ow od hx
 by_cases h1:k1<0<;>by_cases h2:k2<0
 all_goals
  first|rw [decide_eq_true h1]|rw [decide_eq_false h1]
  first|rw [decide_eq_true h2]|rw [decide_eq_false h2]
  simp only [Bool.and_true,Bool.and_false,Bool.true_and,Bool.false_and]
  refine qBa tab [600,601,602] Tryz.func108 rfl rfl rfl (lblz rfl) rfl ⟨Nat.le_refl _,Nat.le_refl _,Nat.le_refl _,trivial⟩ (fun w0 F0 A io0=>?_)
  repeat' (first|refine wG ?_|refine wC c1 ?_|refine wC c2 ?_|refine wC w1 ?_|refine wC c3 ?_|refine rg 1 16 ?_|refine wS ?_ ?_<;>intro _|refine wB ?_ ?_)
  all_goals first|exact leVT|exact ⟨rfl,rfl,rfl,trivial⟩
theorem qIz{p:List Rat}(hp:PolOk p)(p0:qAd p≠[])(x y:Rat)(ox:okQ 150000 x)(oy:okQ 150000 y):Ret Tryz.prog 155 [qsD p,qD x,qD y] (·= .int .i64 (cfn p x y)):=by
 have h:=qP3 (p.map rq) (rq x) (rq y) (by rw [List.length_map];have:=hp.len;omega) (qBq fun x hx=>(hp.ok x hx).mono (by decide)) (by rw [qAf];exact fun h=>(hp.ctr h).1) (qAs (ox.mono (by decide))) (qAs (oy.mono (by decide)))
 rw [qAf,qAw,qAw,if_neg p0] at h
 exact h.args (qCw p (LeT.refl _))
inductive Nar (C:Rat->Rat->Int) (W:List Rat) (last to width:Rat):Nat->I2->I2->Prop
 |stop {x:I2} {n:Nat} (o:okI 150000 x) (h:x.1≤x.2) (g:qNv last to width x=true):Nar C W last to width n x x
 |root {x:I2} {n:Nat} (o:okI 150000 x) (h:x.1≤x.2) (g:qNv last to width x=false) (om:okQ 150000 (mid2 x)) (e:qAb W (mid2 x)=0):Nar C W last to width n x (mid2 x,mid2 x)
 |left {x y:I2} {n:Nat} (o:okI 150000 x) (h:x.1≤x.2) (g:qNv last to width x=false) (om:okQ 150000 (mid2 x)) (e:qAb W (mid2 x)≠0) (c:C x.1 (mid2 x)=1) (r:Nar C W last to width n (x.1,mid2 x) y):Nar C W last to width (n+1) x y
 |right {x y:I2} {n:Nat} (o:okI 150000 x) (h:x.1≤x.2) (g:qNv last to width x=false) (om:okQ 150000 (mid2 x)) (e:qAb W (mid2 x)≠0) (c:C x.1 (mid2 x)≠1) (r:Nar C W last to width n (mid2 x,x.2) y):Nar C W last to width (n+1) x y
theorem mroots_narrow{W:List Rat}(hp:PolOk W)(p0:qAd W≠[])(last to width:Rat)(ol:okQ 150000 last)(ot:okQ 150000 to)(ow:okQ 150000 width){n:Nat}{x y:I2}(hn:Nar (cfn W) W last to width n x y):RetB Tryz.prog 107 [.d (qsD W),.d (iQ x),.fn 108 [.ptr 600 0,.ptr 601 0,.ptr 602 0]] (qAh [(600,.box 27 ((rC (rq last)).map V.d)),(601,.box 27 ((rC (rq to)).map V.d)),(602,.box 27 ((rC (rq width)).map V.d))]) (.d (iQ y)) (qAh [(600,.box 27 ((rC (rq last)).map V.d)),(601,.box 27 ((rC (rq to)).map V.d)),(602,.box 27 ((rC (rq width)).map V.d))]):=by
 refine qBa tab [600,601,602] Tryz.func107 rfl rfl rfl (lblz rfl) rfl ⟨Nat.le_refl _,Nat.le_refl _,Nat.le_refl _,trivial⟩ (fun w0 F0 A io0=>?_)
 repeat' (first|refine wG ?_|refine rg 5 4 ?_|refine wS ?_ ?_<;>intro _|refine wB ?_ ?_)
 refine qB2 (fun (z:I2) (k:Nat)=>([(0,.d (qsD W)),(2,.fn 108 [.ptr 600 0,.ptr 601 0,.ptr 602 0]),(4,.ptr 4 0),(6,.ptr 6 0)],[(600,.box 27 ((rC (rq last)).map V.d)),(601,.box 27 ((rC (rq to)).map V.d)),(602,.box 27 ((rC (rq width)).map V.d)),(4,.box 32 ((iC (rq z.1) (rq z.2)).map V.d)),(6,.box 32 ([.bool false,.nils,.nils,.bool false,.nils,.nils].map V.d))])) (fun z k=>Nar (cfn W) W last to width k z y) (fun z k=>k) x n hn ⟨rfl,rfl,rfl,rfl,rfl⟩ ⟨rfl,rfl,rfl,rfl,rfl,trivial⟩ (fun z k hz=>?_)
 cases hz with
 |stop o h g=>
  have gd:=qIb last to width y h o ol ot ow
  rw [g] at gd
  clear ol ot ow
  repeat' (first|refine wG ?_|refine wD [] gd ?_|refine rg 5 4 ?_|refine wS ?_ ?_<;>intro _|refine wB ?_ ?_)
  all_goals first|exact leVT|exact ⟨rfl,rfl,rfl,trivial⟩
 |root o h g om e=>
  have gd:=qIb last to width z h o ol ot ow
  rw [g] at gd
  have md:=qFp z o h
  have ev:=qC0 hp (mid2 z) om
  rw [e] at ev
  have sg:=qB7 0 (qB9 (by decide))
  rw [show (0:Rat).num.sign=0 from rfl] at sg
  have az:=qNd (mid2 z) (om.mono (by decide))
  generalize mid2 z=m at *
  clear ol ot ow hp p0 hn
  repeat' (first|refine wG ?_|refine wD [] gd ?_|refine wC md ?_|refine wC ev ?_|refine wC sg ?_|refine wC az ?_|refine rg 5 4 ?_|refine wS ?_ ?_<;>intro _|refine wB ?_ ?_)
  all_goals first|exact leVT|exact ⟨rfl,rfl,rfl,trivial⟩
 |left o h g om e c r=>
  have gd:=qIb last to width z h o ol ot ow
  rw [g] at gd
  have md:=qFp z o h
  have ev:=qC0 hp (mid2 z) om
  have oe:=evalV_ok hp (mid2 z) om
  have sg:=qB7 (qAb W (mid2 z)) (oe.mono (by decide))
  have sn:(qAb W (mid2 z)).num.sign≠0:=fun k=>e (sign_zero_iff.1 k)
  have ct:=qIz hp p0 z.1 (mid2 z) o.1 om
  rw [c] at ct
  generalize (qAb W (mid2 z)).num.sign=s at *
  generalize qAb W (mid2 z)=v at *
  generalize mid2 z=m at *
  clear ol ot ow hp p0 hn
  repeat' (first|refine wG ?_|refine wD [] gd ?_|refine wC md ?_|refine wC ev ?_|refine wC sg ?_|refine wC ct ?_|refine rg 5 4 ?_|refine wS ?_ ?_<;>intro _|refine wB ?_ ?_)
  exact ⟨(z.1,m),_,r,Nat.lt_succ_self _,⟨rfl,rfl,rfl,rfl,rfl⟩,rfl,rfl,rfl,rfl,rfl,trivial⟩
 |right o h g om e c r=>
  have gd:=qIb last to width z h o ol ot ow
  rw [g] at gd
  have md:=qFp z o h
  have ev:=qC0 hp (mid2 z) om
  have oe:=evalV_ok hp (mid2 z) om
  have sg:=qB7 (qAb W (mid2 z)) (oe.mono (by decide))
  have sn:(qAb W (mid2 z)).num.sign≠0:=fun k=>e (sign_zero_iff.1 k)
  have ct:=qIz hp p0 z.1 (mid2 z) o.1 om
  generalize cfn W z.1 (mid2 z)=C at *
  generalize (qAb W (mid2 z)).num.sign=s at *
  generalize qAb W (mid2 z)=v at *
  generalize mid2 z=m at *
  clear ol ot ow hp p0 hn
  repeat' (first|refine wG ?_|refine wD [] gd ?_|refine wC md ?_|refine wC ev ?_|refine wC sg ?_|refine wC ct ?_|refine rg 5 4 ?_|refine wS ?_ ?_<;>intro _|refine wB ?_ ?_)
  exact ⟨(m,z.2),_,r,Nat.lt_succ_self _,⟨rfl,rfl,rfl,rfl,rfl⟩,rfl,rfl,rfl,rfl,rfl,trivial⟩
end Go.Proofs.YtejigedigmagdaaGreat
