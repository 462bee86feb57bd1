/-
 Contracts of functions of the program, and the layer that they are walked with: Z13 VAd Z14 Z15 Z08 Z16 Z17 TukH Z22 TukI Z23 Z24 S71 S72 Z29 TukJ OrdersF OrdersG Z25 TukK. Conditions: as each says.
-/
import Derived.Test.YtejigedigmagdaaGreatA11
set_option linter.unnecessarySimpa false
set_option linter.unusedVariables false
set_option linter.unusedSimpArgs false
set_option maxHeartbeats 8000000
namespace Go.Proofs.YtejigedigmagdaaGreat
open Go.Vw
attribute [local irreducible] awp awpL awpR
theorem qLs{p:List Rat}(hp:PolOk p)(p0:qAd p≠[])(X:I2)(hX:X.1≤X.2)(oX:okI 150000 X)(l:List I2)(h:RetB Tryz.prog 154 [.d (qssD (ctr (qAd p))),.d (iQ X)] (qAh []) (iO 500 l.length) (qAh [(500,iB l)])):RetB Tryz.prog 106 [.d (qsD p),.d (qD X.1),.d (qD X.2)] (qAh []) (.tup [iO 500 l.length,.d (.int .i64 0)]) (qAh [(500,iB l)]):=by
 have dg:=qNg p (by have:=hp.len;omega) (fun x hx=>(hp.ok x hx).mono (by decide))
 have nc:=newCounterV hp p0
 have cm:=qBk X.1 X.2 (oX.1.mono (by decide)) (oX.2.mono (by decide))
 have c1:¬0<cmpQ X.1 X.2:=by unfold cmpQ;rw [if_neg (show ¬X.2<X.1 by grind)];split<;>decide
 have hl:=Nat.le_trans (qAu p) hp.len
 have l0:=qA2 p0
 generalize cmpQ X.1 X.2=u at *
 generalize ctr (qAd p)=C at *
 generalize qAd p=q at *
 clear hp oX hX p0
 refine qBa tab [] Tryz.func106 rfl rfl rfl (lblz rfl) rfl trivial (fun w0 F0 A io0=>?_)
 repeat' (first|refine wG ?_|refine wD [500] h ?_|refine wC dg ?_|refine wC cm ?_|refine wC nc ?_|refine rg 8 5 ?_|refine wS ?_ ?_<;>intro _|refine wB ?_ ?_)
 all_goals first|exact leVT|exact ⟨rfl,trivial⟩|exact ⟨qBr rfl,trivial⟩
def qEi(a:Rat)(R:List I2):Nat->Rat
 |0=>a
 |i+1=>(R.getD i (0,0)).2
structure Btw (W:List Rat) (a b width:Rat) (l R:List I2):Prop where
 len:R.length=l.length
 ok:∀i,i≤R.length->okQ 150000 (qEi a R i)
 nar:∀i,i<R.length->∃n,Nar (cfn W) W (qEi a R i) b width n (l.getD i (0,0)) (R.getD i (0,0))
theorem mix_get{l R:List I2}{i:Nat}(hl:R.length=l.length)(hi:i<l.length):(R.take i++l.drop i).getD i (0,0)=l.getD i (0,0):=by
 rw [List.getD_eq_getElem?_getD,List.getElem?_append_right (by rw [List.length_take];omega),List.length_take,show i-min i R.length=0 by omega,List.getElem?_drop,Nat.add_zero,List.getD_eq_getElem?_getD]
theorem mix_set{l R:List I2}{i:Nat}(hl:R.length=l.length)(hi:i<l.length):(R.take i++l.drop i).set i (R.getD i (0,0))=R.take (i+1)++l.drop (i+1):=by
 rw [List.set_append_right _ _ (by rw [List.length_take];omega),List.length_take,show i-min i R.length=0 by omega,List.drop_eq_getElem_cons hi,List.set_cons_zero,List.take_add_one,List.getElem?_eq_getElem (by omega),List.getD_eq_getElem?_getD,List.getElem?_eq_getElem (by omega)]
 simp only [List.append_assoc,Option.toList_some,List.singleton_append,Option.getD_some]
theorem qL0{p W:List Rat}(a b width:Rat){h:Nat}(tp:Tr p)(p0:p≠[])(lp:p.length≤6)(hp:HtP h p)(hh:h≤50000)(oa:okQ 1000 a)(ob:okQ 1000 b)(ow:okQ 150000 width)(hab:a≤b)(eW:W=woP 6 (woP 6 p a) b)(hW:PolOk W)(W0:qAd W≠[])(hw6:HtP 50000 (woP 6 p a)){l R:List I2}(hl:l.length≤1000)(iso:RetB Tryz.prog 154 [.d (qssD (ctr (qAd W))),.d (iQ (a,b))] (qAh []) (iO 500 l.length) (qAh [(500,iB l)]))(hR:Btw W a b width l R):Ret Tryz.prog 56 [qsD p,qD a,qD b,qD width] (·=isD R):=by
 have w1:=qLz p a tp p0 lp hp (by omega) oa 6 lp
 obtain ⟨s1,s2,s3,s4,_⟩:=qFd 6 (s:=a) tp p0 lp
 have w2:=qLz (woP 6 p a) b s1 s2 (by omega) hw6 (by omega) ob 6 (by omega)
 rw [←eW] at w2
 generalize woP 6 p a=p1 at *
 have iso2:=(qLs hW W0 (a,b) hab ⟨oa.mono (by decide),ob.mono (by decide)⟩ l iso).ren [(500,700)]
 obtain ⟨len,hok,nar⟩:=hR
 have nr:=fun i (hi:i<R.length)=>(nar i hi).elim fun n hn=>(mroots_narrow hW W0 (qEi a R i) b width (hok i (by omega)) (ob.mono (by decide)) ow hn).ren [(600,11),(601,6),(602,7)]
 clear nar iso hp eW s1 s2 s3 s4 hw6 tp p0
 refine qAa tab Tryz.func56 rfl rfl (lblz rfl) (fun w0 F0=>?_)
 repeat' (first|refine wG ?_|refine wD [700] iso2 ?_|refine wC w1 ?_|refine wC w2 ?_|refine rg 1 4 ?_|refine wS ?_ ?_<;>intro _|refine finG ?_)
 refine qAi (fun (i:Nat)=>([(0,.d (qsD W)),(6,.ptr 6 0),(7,.ptr 7 0),(9,iO 700 l.length),(11,.ptr 11 0),(27,iO 700 l.length),(28,.d (.int .i64 l.length)),(29,.d (.int .i64 i))],[(6,.box 27 ((rC (rq b)).map V.d)),(7,.box 27 ((rC (rq width)).map V.d)),(11,.box 27 ((rC (rq (qEi a R i))).map V.d)),(700,iB (R.take i++l.drop i))])) (fun i=>i≤l.length) (fun i=>l.length-i) 0 (by omega) ⟨rfl,rfl,rfl,rfl,rfl,rfl,rfl,rfl,rfl⟩ ⟨rfl,rfl,rfl,qBr (by simp),trivial⟩ (fun i hi=>?_)
 by_cases h3:i<l.length
 ·have n1:=nr i (by omega)
  have g1:=mix_get len h3
  have g2:=mix_set len h3
  have e3:(R.take (i+1)++l.drop (i+1)).getD i (0,0)=R.getD i (0,0):=by
   rw [List.getD_eq_getElem?_getD,List.getElem?_append_left (by rw [List.length_take];omega),List.getElem?_take,if_pos (by omega),List.getD_eq_getElem?_getD]
  have lL:(R.take i++l.drop i).length=l.length:=by rw [List.length_append,List.length_take,List.length_drop];omega
  have lL2:(R.take (i+1)++l.drop (i+1)).length=l.length:=by rw [List.length_append,List.length_take,List.length_drop];omega
  have e4:qEi a R (i+1)=(R.getD i (0,0)).2:=rfl
  rw [←g1] at n1
  generalize R.take i++l.drop i=L at *
  generalize hL2:R.take (i+1)++l.drop (i+1)=L2 at *
  clear nr hok
  have e6:(L.set i (R.getD i (0,0))).getD i (0,0)=R.getD i (0,0):=by rw [g2];exact e3
  have eb:Blk.box 27 ((rC (rq ((L.set i (R.getD i (0,0))).getD i (0,0)).2)).map V.d)=Blk.box 27 ((rC (rq (qEi a R (i+1)))).map V.d):=by rw [e6,e4]
  generalize qEi a R i=la at *
  generalize hy:R.getD i (0,0)=y at *
  clear g1 e3 e6
  repeat' (first|refine wG ?_|refine wD [] n1 ?_|refine rg 1 4 ?_|refine wS ?_ ?_<;>intro _|refine finG ?_)
  exact ⟨i+1,by omega,by omega,⟨rfl,rfl,rfl,rfl,rfl,rfl,rfl,iv (by omega),rfl⟩,rfl,rfl,Eq.trans rfl (congrArg some eb),qBr (by rw [g2,←hL2]),trivial⟩
 ·have e:i=l.length:=by omega
  subst e
  have e5:R.take l.length++l.drop l.length=R:=by rw [←len,List.take_of_length_le (Nat.le_refl _),List.drop_eq_nil_of_le (by omega),List.append_nil]
  rw [e5]
  clear nr hok
  repeat' (first|refine wG ?_|refine rg 1 4 ?_|refine wS ?_ ?_<;>intro _|refine finG ?_)
  rfl
end Go.Proofs.YtejigedigmagdaaGreat
namespace Go.Vw
theorem awp_adoptB{X:Ctx}{c:Code}{Q:Exit->St->Prop}{s:St}(kb off k:Nat)(ty:TypeId)(sz:Nat){α:Type}(e:α->List D)(z:α){bty:TypeId}{cs:List V}(hk:(s.new k (.data ty sz e z [])).blk kb=some (.box bty cs))(hc:cs[off]? =some (.d .nils))(h:awp X c Q ((s.new k (.data ty sz e z [])).withBlk kb (.box bty (cs.set off (.own k 0 0 ty sz)))))(hK:X.K.contains k=false:=by rfl):awp X c Q s:=fun io F a w hs=>by
 have hs0:SR X (qD5 io k none) F (s.new k (.data ty sz e z [])) a w:=SR.setBlk (hs.kill k none (qPj hK)) (by rw [qD6];exact Nat.zero_le _) (by simp only [BR];exact .inl ⟨qA8 _ _ _,trivial⟩) fun j c _ _ _ h=>by rw [qA8] at h;cases h
 have hbr:=hs0.bl kb _ hk
 simp only [BR] at hbr
 obtain ⟨b,arr,h1,h2,h3,h4,h5⟩:=hbr
 refine h (qD5 io k none) F a w (hs0.setBlk (by rw [qFm hk];simp [Blk.ln]) ?_ fun j c hj hb e1 e2=>hj (hs0.inj j kb c hb (by rw [hk];simp) e1 e2))
 simp only [BR]
 refine ⟨b,arr,h1,h2,h3,h4,?_⟩
 rw [VRA_iff] at h5 ⊢
 intro i y hi
 by_cases ee:off=i
 ·subst ee
  obtain ⟨v,g1,g2,g3⟩:=h5 off _ hc
  have hl:off<cs.length:=(List.getElem?_eq_some_iff.1 hc).1
  rw [List.getElem?_set_self hl] at hi
  cases hi
  simp only [VR,DR] at g3
  exact ⟨v,g1,g2,by simp only [VR];exact .inl ⟨qA8 _ _ _,g3,trivial,trivial⟩⟩
 ·rw [List.getElem?_set_ne ee] at hi
  obtain ⟨v,g1,g2,g3⟩:=h5 i y hi
  have hl:(s.new k (.data ty sz e z [])).ln kb≤(Blk.box bty (cs.set off (.own k 0 0 ty sz))).ln:=by rw [qFm hk];simp [Blk.ln]
  have hi':∀j,(((s.new k (.data ty sz e z [])).withBlk kb (.box bty (cs.set off (.own k 0 0 ty sz)))).keys (qD5 io k none)).io j=((s.new k (.data ty sz e z [])).keys (qD5 io k none)).io j∧((s.new k (.data ty sz e z [])).keys (qD5 io k none)).ln j≤(((s.new k (.data ty sz e z [])).withBlk kb (.box bty (cs.set off (.own k 0 0 ty sz)))).keys (qD5 io k none)).ln j:=fun j=>⟨rfl,qLa hl j⟩
  exact ⟨v,g1,g2,VR.mono hi' (fun _ h=>h) (fun _ _=>rfl) (Shapes.refl w) _ _ g3⟩
end Go.Vw
namespace Go.Proofs.YtejigedigmagdaaGreat
open Go.Vw
attribute [local irreducible] awp awpL awpR
theorem Tukey_flat(a:I2)(ha:a.1≤a.2)(oa:okI 150000 a)(t:Rat)(ot:okQ 150000 t):RetB Tryz.prog 58 [.d (iQ a),.ptr 600 0] (qAh [(600,.box 27 ((rC (rq t)).map V.d))]) (.d (.bool (qBo a t))) (qAh [(600,.box 27 ((rC (rq t)).map V.d))]):=by
 have c:=qNs a ha ⟨oa.1.mono (by decide),oa.2.mono (by decide)⟩ (rq t) (qAs (ot.mono (by decide)))
 rw [qAw] at c
 clear ha oa ot
 generalize qBo a t=b at *
 refine qBa tab [600] Tryz.func58 rfl rfl rfl (lblz rfl) rfl ⟨Nat.le_refl _,trivial⟩ (fun w0 F0 A io0=>?_)
 repeat' (first|refine wG ?_|refine wC c ?_|refine wS ?_ ?_<;>intro _|refine wB ?_ ?_)
 all_goals first|exact leVT|exact ⟨rfl,trivial⟩
def qOz(F:List I2)(t:Rat):Bool:=F.any fun a=>qBo a t
theorem index_I(F:List I2)(hl:F.length≤1000)(hF:∀a∈F,a.1≤a.2∧okI 150000 a)(t:Rat)(ot:okQ 150000 t):∃c:Int,(decide (0≤c)=qOz F t)∧RetB Tryz.prog 111 [.d (isD F),.fn 58 [.ptr 600 0]] (qAh [(600,.box 27 ((rC (rq t)).map V.d))]) (.d (.int .i64 c)) (qAh [(600,.box 27 ((rC (rq t)).map V.d))]):=by
 have hm:∀i,i<F.length->F.getD i (0,0)∈F:=fun i hi=>by rw [List.getD_eq_getElem?_getD,List.getElem?_eq_getElem hi];exact List.getElem_mem hi
 have gc:=fun i (hi:i<F.length)=>Tukey_flat (F.getD i (0,0)) (hF _ (hm i hi)).1 (hF _ (hm i hi)).2 t ot
 by_cases h:qOz F t=true
 ·obtain ⟨a,ha,hc⟩:=List.any_eq_true.1 h
  obtain ⟨k,hk,rfl⟩:=List.getElem_of_mem ha
  obtain ⟨n,n1,n2,n3⟩:=least (P:=fun j=>qBo (F.getD j (0,0)) t=true) k (by rw [List.getD_eq_getElem?_getD,List.getElem?_eq_getElem hk];exact hc)
  refine ⟨n,by rw [h];exact decide_eq_true (by omega),?_⟩
  clear hF h ot hm
  refine qBa tab [600] Tryz.func111 rfl rfl rfl (lblz rfl) rfl ⟨Nat.le_refl _,trivial⟩ (fun w0 F0 A io0=>?_)
  repeat' (first|refine wG ?_|refine wS ?_ ?_<;>intro _|refine wB ?_ ?_)
  refine qAi (fun (i:Nat)=>([(0,.d (isD F)),(1,.fn 58 [.ptr 600 0]),(7,.d (.int .i64 F.length)),(8,.d (.int .i64 i))],[(600,.box 27 ((rC (rq t)).map V.d))])) (fun i=>i≤n) (fun i=>n-i) 0 (by omega) ⟨rfl,rfl,rfl,rfl,rfl⟩ ⟨rfl,trivial⟩ (fun i hi=>?_)
  have c:=gc i (by omega)
  by_cases h3:i<n
  ·rw [Bool.eq_false_iff.2 (n3 i h3)] at c
   clear gc n3
   repeat' (first|refine wG ?_|refine wD [] c ?_|refine wS ?_ ?_<;>intro _|refine wB ?_ ?_)
   exact ⟨i+1,by omega,by omega,⟨rfl,rfl,rfl,iv (by omega),rfl⟩,rfl,trivial⟩
  ·have e:i=n:=by omega
   subst e
   rw [n2] at c
   clear gc n3
   repeat' (first|refine wG ?_|refine wD [] c ?_|refine wS ?_ ?_<;>intro _|refine wB ?_ ?_)
   all_goals first|exact leVT|exact ⟨rfl,trivial⟩
 ·have hn:∀j,j<F.length->qBo (F.getD j (0,0)) t=false:=fun j hj=>Bool.eq_false_iff.2 fun e=>h (List.any_eq_true.2 ⟨_,hm j hj,e⟩)
  refine ⟨-1,by rw [Bool.eq_false_iff.2 h];rfl,?_⟩
  clear hF h ot hm
  refine qBa tab [600] Tryz.func111 rfl rfl rfl (lblz rfl) rfl ⟨Nat.le_refl _,trivial⟩ (fun w0 F0 A io0=>?_)
  repeat' (first|refine wG ?_|refine wS ?_ ?_<;>intro _|refine wB ?_ ?_)
  refine qAi (fun (i:Nat)=>([(0,.d (isD F)),(1,.fn 58 [.ptr 600 0]),(7,.d (.int .i64 F.length)),(8,.d (.int .i64 i))],[(600,.box 27 ((rC (rq t)).map V.d))])) (fun i=>i≤F.length) (fun i=>F.length-i) 0 (by omega) ⟨rfl,rfl,rfl,rfl,rfl⟩ ⟨rfl,trivial⟩ (fun i hi=>?_)
  by_cases h3:i<F.length
  ·have c:=gc i h3
   rw [hn i h3] at c
   clear gc hn
   repeat' (first|refine wG ?_|refine wD [] c ?_|refine wS ?_ ?_<;>intro _|refine wB ?_ ?_)
   exact ⟨i+1,by omega,by omega,⟨rfl,rfl,rfl,iv (by omega),rfl⟩,rfl,trivial⟩
  ·have e:i=F.length:=by omega
   subst e
   clear gc hn
   repeat' (first|refine wG ?_|refine wS ?_ ?_<;>intro _|refine wB ?_ ?_)
   all_goals first|exact leVT|exact ⟨rfl,trivial⟩
theorem contains_I(F:List I2)(hl:F.length≤1000)(hF:∀a∈F,a.1≤a.2∧okI 150000 a)(t:Rat)(ot:okQ 150000 t):RetB Tryz.prog 57 [.d (isD F),.fn 58 [.ptr 600 0]] (qAh [(600,.box 27 ((rC (rq t)).map V.d))]) (.d (.bool (qOz F t))) (qAh [(600,.box 27 ((rC (rq t)).map V.d))]):=by
 obtain ⟨c,c1,c2⟩:=index_I F hl hF t ot
 rw [←c1]
 clear hF ot
 refine qBa tab [600] Tryz.func57 rfl rfl rfl (lblz rfl) rfl ⟨Nat.le_refl _,trivial⟩ (fun w0 F0 A io0=>?_)
 repeat' (first|refine wG ?_|refine wD [] c2 ?_|refine wS ?_ ?_<;>intro _|refine wB ?_ ?_)
 all_goals first|exact leVT|exact ⟨rfl,trivial⟩
theorem boxEq{ty:TypeId}{cs cs':List V}(h:cs=cs'):some (Blk.box ty cs)=some (Blk.box ty cs'):=by rw [h]
def qAj(x:List Rat)(r:Rat)(j:Nat):List Rat:=eqP (actF x r (mid2 ((qAc x r).getD j 0,(qAc x r).getD (j+1) 0))) (1/(r*r))
def qNy(x:List Rat)(r:Rat)(j:Nat):List I2:=if j+2<(qAc x r).length∧qOz (qCi x r) ((qAc x r).getD (j+1) 0)=false∧qAb (qAj x r j) ((qAc x r).getD (j+1) 0)=0 then [((qAc x r).getD (j+1) 0,(qAc x r).getD (j+1) 0)] else []
def qE7(x:List Rat)(r:Rat)(Rs:Nat->List I2)(j:Nat):List I2:=if qAj x r j=[] then [] else Rs j++qNy x r j
def qDv(x:List Rat)(r:Rat)(Rs:Nat->List I2):Nat->List I2
 |0=>[]
 |j+1=>qDv x r Rs j++qE7 x r Rs j
structure Piece (x:List Rat) (r:Rat) (n:Nat) (Rs:Nat->List I2) (j:Nat):Prop where
 len:(Rs j).length≤10
 btw:Ret Tryz.prog 56 [qsD (qAj x r j),qD ((qAc x r).getD j 0),qD ((qAc x r).getD (j+1) 0),qD (hw 1 n)] (·=isD (Rs j))
 ev:Ret Tryz.prog 60 [qsD (qAj x r j),qD ((qAc x r).getD (j+1) 0)] (·=qD (qAb (qAj x r j) ((qAc x r).getD (j+1) 0)))
 ok:okQ 1000000 (qAb (qAj x r j) ((qAc x r).getD (j+1) 0))
theorem round_len{x:List Rat}{r:Rat}{n:Nat}{Rs:Nat->List I2}{j:Nat}(h:qAj x r j≠[]->Piece x r n Rs j):(qE7 x r Rs j).length≤11:=by
 unfold qE7
 split
 ·exact Nat.zero_le _
 ·rename_i c
  have:=(h c).len
  rw [List.length_append]
  unfold qNy
  split<;>simp<;>omega
theorem pts_len{x:List Rat}{r:Rat}{n:Nat}{Rs:Nat->List I2}:∀{j:Nat},(∀i,i<j->qAj x r i≠[]->Piece x r n Rs i)->(qDv x r Rs j).length≤11*j
 |0,_=>Nat.zero_le _
 |j+1,h=>by
  have a:=pts_len (j:=j) fun i hi=>h i (by omega)
  have b:=round_len (h j (by omega))
  rw [qDv,List.length_append]
  omega
theorem flatQ_ok{x:List Rat}{r:Rat}(hx:∀v∈x,okQ 100 v)(or:okQ 100 r):∀a∈qCi x r,a.1≤a.2∧okI 150000 a:=by
 have key:∀(l:List Rat) (a:Rat),okQ 100 a->(∀v∈l,okQ 100 v)->∀z∈qEp r a l,z.1≤z.2∧okI 150000 z:=by
  intro l
  induction l with
  |nil=>intro a _ _ z hz;simp [qEp] at hz
  |cons b l ih=>
   intro a oa ol z hz
   have ob:=ol b List.mem_cons_self
   have ih:=ih b ob fun v hv=>ol v (List.mem_cons_of_mem _ hv)
   unfold qEp at hz
   split at hz
   ·rename_i c
    rcases List.mem_cons.1 hz with rfl|hz
    ·exact ⟨c,(oa.add or).mono (by decide),(ob.sub or).mono (by decide)⟩
    ·exact ih z hz
   ·exact ih z hz
 have hc:∀v∈cmpL (srt x),okQ 100 v:=fun v hv=>hx v ((qD3 x).subset (cmpL_mem.1 hv))
 unfold qCi
 match h:cmpL (srt x),hc with
 |[],_=>intro a ha;simp [qTe] at ha
 |b::l,hc=>exact key l b (hc b List.mem_cons_self) fun v hv=>hc v (List.mem_cons_of_mem _ hv)
theorem qL1(x:List Rat)(r:Rat)(n:Nat)(hl:x.length≤6)(hx:∀v∈x,okQ 100 v)(or:okQ 100 r)(hr:0<r)(he:qUz x r=0)(hn:n≤128)(Rs:Nat->List I2)(hP:∀j,j+1<(qAc x r).length->qAj x r j≠[]->Piece x r n Rs j):Ret Tryz.prog 18 [qsD x,qD r,.int .i64 n] (·= .tup [.agg [isD (qDv x r Rs ((qAc x r).length-1)),isD (qCi x r)],.int .i64 0]):=by
 have ck:=qPl x r (or.mono (by decide))
 rw [he] at ck
 have br:=qNl x r hl hx or
 have fl:=mroots_flats x r hl hx or
 have ql:=qI7 x r
 have oq:∀j,okQ 200 ((qAc x r).getD j 0):=fun j=>qCv (fun y hy=>(qO2 hx or y (endsQ_mem.1 hy)).mono (by decide)) (by decide) j
 have asc:∀j,j+1<(qAc x r).length->(qAc x r).getD j 0≤(qAc x r).getD (j+1) 0:=fun j hj=>by
  rw [qBe hj,qBe (show j<_ by omega)]
  exact qU3 (qBx x r).asc (Nat.le_succ j) hj
 have fok:=flatQ_ok hx or
 have fll:(qCi x r).length≤64:=Nat.le_trans (qNw _ _) (Nat.le_trans (qIa _) (by rw [qE2];omega))
 have pl:∀j,j<(qAc x r).length->(qDv x r Rs j).length≤1408:=fun j hj=>Nat.le_trans (pts_len (n:=n) fun i hi=>hP i (by omega)) (by omega)
 have eqn:∀j,j+1<(qAc x r).length->Ret Tryz.prog 54 [qsD x,qD r,qD (mid2 ((qAc x r).getD j 0,(qAc x r).getD (j+1) 0))] (·=qsD (qAj x r j)):=fun j hj=>qRs x r _ hl hx or (((oq j).add (oq (j+1))).div (okQ_two2) (by decide) |>.mono (by decide)) (by grind)
 have fc:=fun j=>contains_I (qCi x r) (by omega) fok ((qAc x r).getD (j+1) 0) ((oq (j+1)).mono (by decide))
 have f1:=qB1 1 (by decide) (by decide)
 have f2:=qB1 2 (by decide) (by decide)
 have hwS:∀i,i<n->Ret Tryz.prog 42 [qD (hw 1 i),qD ((2:Int):Rat)] (·= .tup [qD (hw 1 (i+1)),.int .i64 0]):=fun i hi=>by
  have h:=qGy (hw 1 i) ((2:Int):Rat) ((hw_ok okQ_one i).mono (by omega)) ((qF6 (by decide)).mono (by decide))
  rw [if_neg (by decide)] at h
  exact h
 have e2:((2:Int):Rat)=2:=rfl
 have e1:((1:Int):Rat)=hw 1 0:=rfl
 rw [e1] at f1
 have okm:∀j,okI 150000 ((qAc x r).getD j 0,(qAc x r).getD (j+1) 0):=fun j=>⟨(oq j).mono (by decide),(oq (j+1)).mono (by decide)⟩
 obtain ⟨p,hp⟩:∃p:Nat->List Rat,∀j,p j=qAj x r j:=⟨_,fun _=>rfl⟩
 obtain ⟨S,hS⟩:∃S:Nat->List I2,∀j,S j=qDv x r Rs j:=⟨_,fun _=>rfl⟩
 obtain ⟨q,hq⟩:∃q,qAc x r=q:=⟨_,rfl⟩
 obtain ⟨F,hF⟩:∃F,qCi x r=F:=⟨_,rfl⟩
 have s0:S 0=[]:=by rw [hS];rfl
 have sA:∀j,p j=[]->S (j+1)=S j:=fun j h=>by
  rw [hS,hS,qDv,qE7,if_pos (by rw [←hp];exact h),List.append_nil]
 have sB:∀j,p j≠[]->S (j+1)=(S j++Rs j)++(if j+2<q.length∧qOz F (q.getD (j+1) 0)=false∧qAb (p j) (q.getD (j+1) 0)=0 then [(q.getD (j+1) 0,q.getD (j+1) 0)] else []):=fun j h=>by
  rw [hS,hS,qDv,qE7,if_neg (by rw [←hp];exact h),List.append_assoc,qNy,hq,hF,hp]
 have hP2:∀j,j+1<q.length->p j≠[]->Piece x r n Rs j:=fun j h1 h2=>hP j (by rw [hq];exact h1) (by rw [←hp];exact h2)
 have len6:∀j,(p j).length≤6:=fun j=>by rw [hp];exact qHn _ _
 have pl2:∀j,j<q.length->(S j).length≤1408:=fun j h=>by rw [hS];exact pl j (by rw [hq];exact h)
 have qpos:0<q.length:=by
  rw [←hq]
  refine qDw fun e=>?_
  rw [e] at he
  exact absurd he (show ¬(10:Int)=0 by decide)
 rw [hq] at br ql oq asc eqn fc okm
 rw [hF] at fl fok fll fc
 have eqn2:∀j,j+1<q.length->Ret Tryz.prog 54 [qsD x,qD r,qD (mid2 (q.getD j 0,q.getD (j+1) 0))] (·=qsD (p j)):=fun j hj=>by rw [hp];exact eqn j hj
 rw [←hS,hq,hF]
 clear hx pl eqn hP
 refine qAa tab Tryz.func18 rfl rfl (lblz rfl) (fun w0 F0=>?_)
 repeat' (first|refine wG ?_|refine wC ck ?_|refine wC f1 ?_|refine rg 9 7 ?_|refine rgK 16 12 [13,14] ?_|refine rg 17 6 ?_|refine rg 19 7 ?_|refine rg 22 10 ?_|refine wS ?_ ?_<;>intro _|refine finG ?_)
 refine qJy (Conv.box 6 (cs:=[.nils,.nils]) [.nils,.nils] rfl leL) ?_
 refine qAi (fun (i:Nat)=>([(0,.d (qsD x)),(4,.ptr 4 0),(6,.ptr 6 0),(7,.d (.int .i64 0)),(9,.ptr 9 0),(32,.d (.int .i64 n)),(33,.d (.int .i64 i))],[(4,.box 27 ((rC (rq r)).map V.d)),(6,.box 44 [.d .nils,.d .nils]),(9,.box 27 ((rC (rq (hw 1 i))).map V.d))])) (fun i=>i≤n) (fun i=>n-i) 0 (by omega) ⟨rfl,rfl,rfl,rfl,rfl,rfl,rfl,rfl⟩ ⟨rfl,rfl,rfl,trivial⟩ (fun i hi=>?_)
 by_cases h3:i<n
 ·have d1:=hwS i h3
  clear hwS okm hP2 sA sB eqn2 pl2 len6 oq asc fc
  repeat' (first|refine wG ?_|refine wC f2 ?_|refine wC d1 ?_|refine rg 9 7 ?_|refine rgK 16 12 [13,14] ?_|refine rg 17 6 ?_|refine rg 19 7 ?_|refine rg 22 10 ?_|refine wS ?_ ?_<;>intro _|refine finG ?_)
  exact ⟨i+1,by omega,by omega,⟨rfl,rfl,rfl,rfl,rfl,rfl,iv (by omega),rfl⟩,rfl,rfl,rfl,trivial⟩
 ·have e:n=i:=by omega
  subst e
  clear hwS
  repeat' (first|refine wG ?_|refine wC fl ?_|refine wC br ?_|refine rg 9 7 ?_|refine rgK 16 12 [13,14] ?_|refine rg 17 6 ?_|refine rg 19 7 ?_|refine rg 22 10 ?_|refine wS ?_ ?_<;>intro _|refine finG ?_)
  refine awp_adoptB 10 0 500 32 6 qiC (0,0) rfl rfl ?_
  refine qAi (fun (i:Nat)=>([(0,.d (qsD x)),(4,.ptr 4 0),(6,.ptr 6 0),(7,.d (.int .i64 0)),(9,.ptr 9 0),(10,.ptr 10 0),(11,.d (qsD q)),(12,.d (.int .i64 i))],[(4,.box 27 ((rC (rq r)).map V.d)),(6,.box 44 [.d .nils,.d .nils]),(9,.box 27 ((rC (rq (hw 1 n))).map V.d)),(10,.box 44 [iO 500 (S (i-1)).length,.d (isD F)]),(500,iB (S (i-1)))])) (fun i=>1≤i∧i≤q.length) (fun i=>q.length-i) 1 ⟨Nat.le_refl _,qpos⟩ ⟨rfl,rfl,rfl,rfl,rfl,rfl,rfl,rfl,rfl⟩ ⟨rfl,rfl,rfl,boxEq (by rw [s0];rfl),qBr (by rw [s0]),trivial⟩ (fun i hi=>?_)
  obtain ⟨i1,i2⟩:=hi
  have psl:=pl2 (i-1) (by omega)
  by_cases h4:i<q.length
  ·have e0:((i:Int)-1).toNat=i-1:=by omega
   have e1:i-1+1=i:=by omega
   have md:=qFp (q.getD (i-1) 0,q.getD (i-1+1) 0) (okm (i-1)) (asc (i-1) (by omega))
   have eq:=eqn2 (i-1) (by omega)
   have hl6:=len6 (i-1)
   by_cases h5:p (i-1)=[]
   ·have st:=sA (i-1) h5
    have lp:(p (i-1)).length=0:=by rw [h5];rfl
    rw [e1] at md eq st
    generalize mid2 (q.getD (i-1) 0,q.getD i 0)=m at *
    rw [show q.getD (i-1) 0=q.getD ((i:Int)-1).toNat 0 by rw [e0]] at md
    generalize p (i-1)=pp at *
    clear okm asc eqn2 len6 hP2 sA sB oq fc pl2 h5
    repeat' (first|refine wG ?_|refine wC md ?_|refine wC eq ?_|refine rg 9 7 ?_|refine rgK 16 12 [13,14] ?_|refine rg 17 6 ?_|refine rg 19 7 ?_|refine rg 22 10 ?_|refine wS ?_ ?_<;>intro _|refine finG ?_)
    exact ⟨i+1,⟨by omega,by omega⟩,by omega,⟨rfl,rfl,rfl,rfl,rfl,rfl,rfl,iv (by omega),rfl⟩,rfl,rfl,rfl,boxEq (by rw [Nat.add_sub_cancel,st];rfl),qBr (by rw [Nat.add_sub_cancel,st]),trivial⟩
   ·have st:=sB (i-1) h5
    have lp:=qA2 h5
    obtain ⟨k1,k2,k3,k4⟩:=hP2 (i-1) (by omega) h5
    rw [show qAj x r (i-1)=p (i-1) from (hp _).symm,hq] at k2 k3 k4
    have fcc:=(fc (i-1)).ren [(600,14)]
    have sg:=qB7 _ (k4.mono (show 1000000≤10000000 by decide))
    have hu:=qIg (q.getD (i-1+1) 0,q.getD (i-1+1) 0) ⟨(oq _).mono (by decide),(oq _).mono (by decide)⟩ Rat.le_refl
    rw [show i-1+2=i+1 by omega] at st
    rw [e1] at md eq st k2 k3 k4 fcc sg hu
    have sz:=sign_zero_iff (q:=qAb (p (i-1)) (q.getD i 0))
    generalize mid2 (q.getD (i-1) 0,q.getD i 0)=m at *
    generalize qAb (p (i-1)) (q.getD i 0)=v at *
    rw [show q.getD (i-1) 0=q.getD ((i:Int)-1).toNat 0 by rw [e0]] at md k2
    generalize qOz F (q.getD i 0)=fb at *
    clear okm asc eqn2 len6 hP2 sA sB oq fc pl2 h5 hS hp
    generalize p (i-1)=pp at *
    generalize Rs (i-1)=R at *
    cases fb with
    |true=>
     rw [if_neg (by simp),List.append_nil] at st
     repeat' (first|refine wG ?_|refine wD [] fcc ?_|refine wC md ?_|refine wC eq ?_|refine wC k2 ?_|refine rg 9 7 ?_|refine rgK 16 12 [13,14] ?_|refine rg 17 6 ?_|refine rg 19 7 ?_|refine rg 22 10 ?_|refine wS ?_ ?_<;>intro _|refine finG ?_)
     all_goals exact ⟨i+1,⟨by omega,by omega⟩,by omega,⟨rfl,rfl,rfl,rfl,rfl,rfl,rfl,iv (by omega),rfl⟩,rfl,rfl,rfl,boxEq (by rw [Nat.add_sub_cancel,st];rfl),qBr (by rw [Nat.add_sub_cancel,st]),trivial⟩
    |false=>
     by_cases h6:i+1<q.length
     ·have s2:=sg
      generalize hz:v.num.sign=z at *
      by_cases h7:v=0
      ·rw [if_pos ⟨h6,rfl,h7⟩] at st
       have h8:=sz.2 h7
       clear k4 sz h7
       repeat' (first|refine wG ?_|refine wD [] fcc ?_|refine wC md ?_|refine wC eq ?_|refine wC k2 ?_|refine wC k3 ?_|refine wC s2 ?_|refine wC hu ?_|refine rg 9 7 ?_|refine rgK 16 12 [13,14] ?_|refine rg 17 6 ?_|refine rg 19 7 ?_|refine rg 22 10 ?_|refine wS ?_ ?_<;>intro _|refine finG ?_)
       exact ⟨i+1,⟨by omega,by omega⟩,by omega,⟨rfl,rfl,rfl,rfl,rfl,rfl,rfl,iv (by omega),rfl⟩,rfl,rfl,rfl,boxEq (by rw [Nat.add_sub_cancel,st];rfl),qBr (by rw [Nat.add_sub_cancel,st]),trivial⟩
      ·rw [if_neg (fun h=>h7 h.2.2),List.append_nil] at st
       have h8:z≠0:=fun e=>h7 (sz.1 e)
       clear k4 sz h7
       repeat' (first|refine wG ?_|refine wD [] fcc ?_|refine wC md ?_|refine wC eq ?_|refine wC k2 ?_|refine wC k3 ?_|refine wC s2 ?_|refine wC hu ?_|refine rg 9 7 ?_|refine rgK 16 12 [13,14] ?_|refine rg 17 6 ?_|refine rg 19 7 ?_|refine rg 22 10 ?_|refine wS ?_ ?_<;>intro _|refine finG ?_)
       exact ⟨i+1,⟨by omega,by omega⟩,by omega,⟨rfl,rfl,rfl,rfl,rfl,rfl,rfl,iv (by omega),rfl⟩,rfl,rfl,rfl,boxEq (by rw [Nat.add_sub_cancel,st];rfl),qBr (by rw [Nat.add_sub_cancel,st]),trivial⟩
     ·rw [if_neg (fun h=>h6 h.1),List.append_nil] at st
      repeat' (first|refine wG ?_|refine wD [] fcc ?_|refine wC md ?_|refine wC eq ?_|refine wC k2 ?_|refine rg 9 7 ?_|refine rgK 16 12 [13,14] ?_|refine rg 17 6 ?_|refine rg 19 7 ?_|refine rg 22 10 ?_|refine wS ?_ ?_<;>intro _|refine finG ?_)
      exact ⟨i+1,⟨by omega,by omega⟩,by omega,⟨rfl,rfl,rfl,rfl,rfl,rfl,rfl,iv (by omega),rfl⟩,rfl,rfl,rfl,boxEq (by rw [Nat.add_sub_cancel,st];rfl),qBr (by rw [Nat.add_sub_cancel,st]),trivial⟩
  ·have e:i=q.length:=by omega
   subst e
   clear okm asc eqn2 len6 hP2 sA sB oq fc pl2
   generalize S (q.length-1)=P at *
   repeat' (first|refine wG ?_|refine rg 9 7 ?_|refine rgK 16 12 [13,14] ?_|refine rg 17 6 ?_|refine rg 19 7 ?_|refine rg 22 10 ?_|refine wS ?_ ?_<;>intro _|refine qFx ?_)
   exact leT
theorem qUk(l:List Int)(hl:l.length≤1000)(hx:∀v∈l, -9223372036854775808≤v∧v<9223372036854775808):Ret Tryz.prog 33 [i64s l] (·=qsD (l.map fun (v:Int)=>(v:Rat))):=by
 refine qAa tab Tryz.func33 rfl rfl (lblz rfl) (fun w0 F0=>?_)
 repeat' (first|refine wG ?_|refine wS ?_ ?_<;>intro _|refine finG ?_)
 refine qB3 3 500 27 3 qC 0 rfl ?_
 refine qAi (fun (i:Nat)=>([(0,.d (i64s l)),(3,qO i),(4,.d (.int .i64 i))],[(500,qB ((l.map fun (v:Int)=>(v:Rat)).take i))])) (fun i=>i≤l.length) (fun i=>l.length-i) 0 (by omega) ⟨rfl,rfl,rfl,rfl⟩ ⟨rfl,trivial⟩ (fun i hi=>?_)
 have hlq:((l.map fun (v:Int)=>(v:Rat)).take i).length=i:=by rw [List.length_take,List.length_map];omega
 by_cases h3:i<l.length
 ·have hb:=hx (l.getD i 0) (by rw [List.getD_eq_getElem?_getD,List.getElem?_eq_getElem h3];exact List.getElem_mem h3)
  have f1:=qBc (l.getD i 0) hb.1 hb.2
  have et:(l.map fun (v:Int)=>(v:Rat)).take i++[((l.getD i 0:Int):Rat)]=(l.map fun (v:Int)=>(v:Rat)).take (i+1):=by
   rw [List.take_add_one,List.getElem?_map,List.getD_eq_getElem?_getD,List.getElem?_eq_getElem h3];rfl
  generalize ((l.getD i 0:Int):Rat)=x at *
  obtain ⟨B,hB⟩:∃B,(l.map fun (v:Int)=>(v:Rat)).take (i+1)=B:=⟨_,rfl⟩
  rw [hB] at et
  generalize (l.map fun (v:Int)=>(v:Rat)).take i=A at *
  clear hx
  repeat' (first|refine wG ?_|refine wC f1 ?_|refine wS ?_ ?_<;>intro _|refine finG ?_)
  exact ⟨i+1,by omega,by omega,⟨rfl,qEn (by rw [List.length_append,hlq];rfl),iv (by omega),rfl⟩,qBr (et.trans hB.symm),trivial⟩
 ·have e:i=l.length:=by omega
  subst e
  rw [List.take_of_length_le (by rw [List.length_map];omega)] at hlq ⊢
  generalize (l.map fun (v:Int)=>(v:Rat))=A at *
  clear hx
  repeat' (first|refine wG ?_|refine wS ?_ ?_<;>intro _|(show qA5 _ _ _ _ _;first|refine finF true rfl rfl sc ?_|refine finF false rfl rfl sc ?_|refine finC false rfl rfl sc sc ?_|refine finN rfl rfl sc ?_|refine finL true rfl rfl sc rfl (LeR.cons rfl leL LeR.nil) ?_|refine finA true rfl rfl sc ?_|refine finA false rfl rfl sc ?_|refine finE true rfl rfl sc ?_|refine finE false rfl rfl sc ?_))
  all_goals rfl
theorem qK0:qAc [-3,3] 1=[-4, -2,2,4]:=by
 unfold qAc
 rw [show qDq [-3,3] 1=[-4, -2,2,4] by decide+kernel,←qLe (a:=[-4, -2,2,4]) (by unfold AscQ;decide+kernel) (List.Perm.refl _)]
 decide+kernel
theorem flat_w:qCi [-3,3] 1=[(-2,2)]:=by
 unfold qCi
 rw [←qLe (a:=[-3,3]) (by unfold AscQ;decide+kernel) (List.Perm.refl _)]
 decide+kernel
theorem piece_w:qAj [-3,3] 1 0=[-192, -352, -252, -88, -15, -1]∧qAj [-3,3] 1 1=[]∧qAj [-3,3] 1 2=[192, -352,252, -88,15, -1]:=by
 unfold qAj
 rw [qK0]
 decide+kernel
theorem wo_w:woP 6 (woP 6 [-192, -352, -252, -88, -15, -1] (-4)) (-2)=[-3, -1]∧woP 6 (woP 6 [192, -352,252, -88,15, -1] 2) 4=[3, -1]:=by decide+kernel
theorem cfn_w:cfn [-3, -1] (-4) (-2)=1∧cfn [3, -1] 2 4=1:=by decide+kernel
theorem hub_w:HubSpec [0,1,10] 1 1 1:=by
 have e:∀t,hub [0,1,10] 1 t=qBz (0-t) 1+(qBz (1-t) 1+(qBz (10-t) 1+0)):=fun t=>rfl
 refine ⟨Rat.le_refl,fun t h=>?_,fun t h1 h2=>?_,fun t h=>?_⟩
 ·rw [e];unfold qBz;grind
 ·have:t=1:=by grind
  subst this
  decide+kernel
 ·rw [e];unfold qBz;grind
theorem wo_w1:woP 6 [-192, -352, -252, -88, -15, -1] (-4)=[-12, -16, -7, -1]∧woP 6 [192, -352,252, -88,15, -1] 2=[48, -40,11, -1]:=by decide+kernel
def sm2(q:Rat):Bool:=decide (q.num.natAbs<4294967296)&&decide (q.den<4294967296)
theorem qGt{q:Rat}(h:sm2 q=true):okQ 2 q:=by
 unfold sm2 at h
 rw [Bool.and_eq_true,decide_eq_true_eq,decide_eq_true_eq] at h
 exact ⟨ln_sm h.1,ln_sm h.2⟩
theorem qL9{l:List Rat}(h:l.all sm2=true):∀q∈l,okQ 2 q:=fun q hq=>qGt (List.all_eq_true.1 h q hq)
theorem one_piece{p W W1:List Rat}{a b m:Rat}(sp:p.all sm2=true)(tp:qAd p=p)(p0:p≠[])(lp:p.length≤6)(e1:woP 6 p a=W1)(s1:W1.all sm2=true)(t1:qAd W1=W1)(l1:W1.length≤6)(e2:woP 6 W1 b=W)(s2:W.all sm2=true)(l2:W.length≤6)(W0:qAd W≠[])(hab:a≤b)(oa:okQ 2 a)(ob:okQ 2 b)(om:okQ 2 m)(cf1:cfn W a b=1)(em:mid2 (a,b)=m)(ev:qAb W m=0)(ow:okQ 150000 (hw 1 2)):Ret Tryz.prog 56 [qsD p,qD a,qD b,qD (hw 1 2)] (·=isD [(m,m)]):=by
  have oI:okI 150000 (a,b):=⟨oa.mono (by decide),ob.mono (by decide)⟩
  have pW:=qMj (qL9 s2) l2
  have ct:=countV pW W0 a b oI.1 oI.2
  rw [show cntF (ctr (qAd W)) a b=1 from cf1] at ct
  have is:=(qRy (p:=W) (a,b) hab oI ct).ren [(19,500)]
  have hg:qNv a b (hw 1 2) (a,b)=false:=by
    unfold qNv
    rw [decide_eq_false Rat.lt_irrefl];rfl
  have h1:=ht2 (qL9 sp) lp
  rw [tp] at h1
  have h2:=ht2 (qL9 s1) l1
  rw [t1] at h2
  refine qL0 a b (hw 1 2) (by rw [←tp];exact qAl p) p0 lp h1 (by decide) (oa.mono (by decide)) (ob.mono (by decide)) ow hab (by rw [e1,e2]) pW W0 (by rw [e1];exact h2.mono (by decide)) (l:=[(a,b)]) (Nat.le_add_left 1 999) is ⟨rfl,fun i hi=>?_,fun i hi=>?_⟩
  · match i,hi with
    |0,_=>exact oI.1
    |1,_=>exact om.mono (by decide)
  · match i,hi with
    |0,_=>exact ⟨0,by
       have:=Nar.root (C:=cfn W) (W:=W) (last:=a) (to:=b) (width:=hw 1 2) (n:=0) oI hab hg (by rw [em];exact om.mono (by decide)) (by rw [em];exact ev)
       rw [em] at this
       exact this⟩
theorem tukey_w:Ret Tryz.prog 18 [qsD [-3,3],qD 1,.int .i64 2] (·= .tup [.agg [isD [(-3, -3),(3,3)],isD [(-2,2)]],.int .i64 0]):=by
 obtain ⟨p0,p1,p2⟩:=piece_w
 obtain ⟨w0,w2⟩:=wo_w
 obtain ⟨v0,v2⟩:=wo_w1
 rw [v0] at w0
 rw [v2] at w2
 obtain ⟨c0,c2⟩:=cfn_w
 have ow:okQ 150000 (hw 1 2):=(hw_ok okQ_one 2).mono (by decide)
 have b0:=one_piece (p:=[-192, -352, -252, -88, -15, -1]) (a:= -4) (b:= -2) (m:= -3) (by decide+kernel) (by decide+kernel) (by decide) (by decide) v0 (by decide+kernel) (by decide+kernel) (by decide) w0 (by decide+kernel) (by decide) (by decide+kernel) (by decide+kernel) (qGt (by decide+kernel)) (qGt (by decide+kernel)) (qGt (by decide+kernel)) c0 (by decide+kernel) (by decide+kernel) ow
 have b2:=one_piece (p:=[192, -352,252, -88,15, -1]) (a:=2) (b:=4) (m:=3) (by decide+kernel) (by decide+kernel) (by decide) (by decide) v2 (by decide+kernel) (by decide+kernel) (by decide) w2 (by decide+kernel) (by decide) (by decide+kernel) (by decide+kernel) (qGt (by decide+kernel)) (qGt (by decide+kernel)) (qGt (by decide+kernel)) c2 (by decide+kernel) (by decide+kernel) ow
 have q0:=qMj (p:=[-192, -352, -252, -88, -15, -1]) (qL9 (by decide+kernel)) (by decide)
 have q2:=qMj (p:=[192, -352,252, -88,15, -1]) (qL9 (by decide+kernel)) (by decide)
 have h:=qL1 [-3,3] 1 2 (by decide) (fun v hv=>(qL9 (l:=[-3,3]) (by decide+kernel) v hv).mono (by decide)) (okQ_one.mono (by decide)) (by decide) (by decide+kernel) (by decide) (fun j=>if j=0 then [(-3, -3)] else [(3,3)]) (fun j hj hp=>by
  rw [qK0] at hj
  match j,hj with
  |0,_=> 
   refine ⟨by decide,?_,?_,?_⟩
   ·rw [p0,qK0];exact b0
   ·rw [p0,qK0];exact qC0 q0 (-2) ((qGt (by decide+kernel)).mono (by decide))
   ·rw [p0,qK0];exact (qGt (by decide+kernel)).mono (by decide)
  |1,_=>exact absurd p1 hp
  |2,_=> 
   refine ⟨by decide,?_,?_,?_⟩
   ·rw [p2,qK0];exact b2
   ·rw [p2,qK0];exact qC0 q2 4 ((qGt (by decide+kernel)).mono (by decide))
   ·rw [p2,qK0];exact (qGt (by decide+kernel)).mono (by decide))
 rw [flat_w,qK0] at h
 have e:qDv [-3,3] 1 (fun j=>if j=0 then [(-3, -3)] else [(3,3)]) ([-4, -2,2,4]:List Rat).length.pred=[(-3, -3),(3,3)]:=by
  have e0:qNy [-3,3] 1 0=[]:=by
   unfold qNy
   rw [flat_w,qK0]
   refine if_neg fun h=>absurd h.2.1 (by decide+kernel)
  have e2:qNy [-3,3] 1 2=[]:=by
   unfold qNy
   rw [flat_w,qK0]
   refine if_neg fun h=>absurd h.1 (by decide)
  show qDv [-3,3] 1 _ 3=_
  unfold qDv qDv qDv qDv qE7
  rw [p0,p1,p2,if_neg (by decide),if_pos rfl,if_neg (by decide),e0,e2]
  rfl
 rw [show ([-4, -2,2,4]:List Rat).length-1=([-4, -2,2,4]:List Rat).length.pred from rfl,e] at h
 exact h
theorem huber_w:Ret Tryz.prog 12 [qsD [0,1,10],qD 1] (·= .tup [iQ (1,1),.int .i64 0]):=by
 obtain ⟨lo,hi,h⟩:=HubAt.ex (x:=[0,1,10]) (k:=1) (by decide) (by simp)
 obtain ⟨e1,e2⟩:=(h.spec (by decide)).unique hub_w
 subst e1 e2
 exact qTb [0,1,10] 1 (by decide) (fun v hv=>(qL9 (l:=[0,1,10]) (by decide+kernel) v hv).mono (by decide)) (okQ_one.mono (by decide)) (by decide) (by decide+kernel) h
theorem law22_awake:Ret Tryz.prog 11 [] (·= .bool true):=by
 have i1:=qUk [-3,3] (by decide) (by decide)
 have i2:=qUk [0,1,10] (by decide) (by decide)
 have f1:=qBc 1 (by decide) (by decide)
 have f2:=qBc 2 (by decide) (by decide)
 have f3:=qBc (-2) (by decide) (by decide)
 have t1:=tukey_w
 have h1:=huber_w
 have o2:okI 10000000 ((-2:Rat),(2:Rat)):=⟨(qGt (by decide+kernel)).mono (by decide),(qGt (by decide+kernel)).mono (by decide)⟩
 have s1:=qMc (-2,2) (-2,2) o2 o2
 have o1:okI 10000000 ((1:Rat),(1:Rat)):=⟨okQ_one.mono (by decide),okQ_one.mono (by decide)⟩
 have s2:=qMc (1,1) (1,1) o1 o1
 rw [decide_eq_true rfl] at s1 s2
 rw [show ([-3,3]:List Int).map (fun (v:Int)=>(v:Rat))=[-3,3] from rfl] at i1
 rw [show ([0,1,10]:List Int).map (fun (v:Int)=>(v:Rat))=[0,1,10] from rfl] at i2
 rw [show ((1:Int):Rat)=1 from rfl] at f1
 rw [show ((2:Int):Rat)=2 from rfl] at f2
 rw [show ((-2:Int):Rat)= -2 from rfl] at f3
 generalize hA:([-3,3]:List Rat)=A at *
 generalize hB:([0,1,10]:List Rat)=B at *
 have ep:([(-3, -3),(3,3)]:List I2).length=2:=rfl
 generalize ([(-3, -3),(3,3)]:List I2)=P at *
 generalize (1:Rat)=q1 at *
 generalize (2:Rat)=q2 at *
 generalize (-2:Rat)=q3 at *
 clear o1 o2 hA hB
 refine qAa tab Tryz.func11 rfl rfl (lblz rfl) (fun w0 F0=>?_)
 repeat' (first|refine wG ?_|refine wC i1 ?_|refine wC i2 ?_|refine wC f1 ?_|refine wC f2 ?_|refine wC f3 ?_|refine wC t1 ?_|refine wC h1 ?_|refine wC s1 ?_|refine wC s2 ?_|refine rg 4 33 ?_|refine wS ?_ ?_<;>intro _|refine finG ?_)
 rfl
end Go.Proofs.YtejigedigmagdaaGreat
set_option linter.unnecessarySimpa false
namespace Go.Vw
theorem ln_lt{n k:Nat}(h:ln n<k+1):n<B^k:=Nat.lt_of_lt_of_le (qCh n) (Nat.pow_le_pow_right (by decide) (by unfold ln at h;omega))
theorem lnB_of{n k:Nat}(h:n<B^k):ln n<k+1:=Nat.lt_succ_of_le (qA3 h)
theorem lin_quo{p:List Rat}(tp:Tr p)(p0:p≠[]){s:Rat}{h:Nat}(hp:HtP (h+1) p)(lp:p.length≤6)(os:okQ 2 s)(hz:qAb p s=0):HtP (h+1+p.length) (divP p [-s,1]).1:=by
 obtain ⟨r1,r2⟩:=rem_lin tp s
 have hr:=r1.2 hz
 obtain ⟨tq,q0,lq⟩:=quo_lin tp p0 hr
 generalize (divP p [-s,1]).1=q at *
 have ev:∀x,qAb p x=qAb (subC (0::q) (smul s q)) x:=fun x=>by
  rw [r2 x,hr,qEj,qA4]
  simp only [qAb]
  grind
 have cq:∀i,cf q i=cf p (i+1)+s*cf q (i+1):=fun i=>by
  have:=qA0 ev (i+1)
  rw [qJ9,qA6] at this
  have e:cf (0::q) (i+1)=cf q i:=rfl
  rw [e] at this
  grind
 obtain ⟨c,P,c0,hc,hP⟩:=hp
 have a1:=ln_lt os.1
 have b1:=ln_lt os.2
 rw [Nat.pow_one] at a1 b1
 have sd:(s.den:Int)≠0:=by have:=s.den_nz;omega
 have es:s=Rat.divInt s.num s.den:=(Rat.num_divInt_den s).symm
 rw [Rat.divInt_eq_div] at es
 generalize s.num=al at *
 generalize s.den=be at *
 have cb:=ln_lt hc
 have key:∀k,k≤q.length->∃Q:Int,Q.natAbs≤k*B^(h+k)∧cf q (q.length-k)=Rat.divInt Q (c*(be:Int)^k):=fun k=>by
  induction k with
  |zero=>exact fun _=>⟨0,by simp,by rw [Nat.sub_zero,qCr (Nat.le_refl _)];exact (Rat.zero_divInt _).symm⟩
  |succ k ih=>
   intro hk
   obtain ⟨Q,q1,q2⟩:=ih (by omega)
   obtain ⟨p1,p2⟩:=hP (q.length-(k+1)+1)
   have hi:q.length-(k+1)+1=q.length-k:=by omega
   have pb:=ln_lt p1
   refine ⟨P (q.length-(k+1)+1)*(be:Int)^(k+1)+al*Q,?_,?_⟩
   ·have m1:(P (q.length-(k+1)+1)*(be:Int)^(k+1)).natAbs≤B^h*B^(k+1):=by
     rw [Int.natAbs_mul,Int.natAbs_pow,Int.natAbs_natCast]
     exact Nat.mul_le_mul (Nat.le_of_lt pb) (Nat.pow_le_pow_left (Nat.le_of_lt b1) _)
    have m2:(al*Q).natAbs≤B*(k*B^(h+k)):=by
     rw [Int.natAbs_mul]
     exact Nat.mul_le_mul (Nat.le_of_lt a1) q1
    have m3:=Int.natAbs_add_le (P (q.length-(k+1)+1)*(be:Int)^(k+1)) (al*Q)
    have e1:B^h*B^(k+1)=B^(h+(k+1)):=(Nat.pow_add ..).symm
    have e2:B*(k*B^(h+k))=k*B^(h+(k+1)):=by rw [show h+(k+1)=(h+k)+1 from rfl,Nat.pow_succ];grind
    rw [e1] at m1
    rw [e2] at m2
    rw [Nat.add_mul,Nat.one_mul]
    omega
   ·rw [cq,p2,hi,q2]
    have dk:((be:Int)^k)≠0:=Int.pow_ne_zero sd
    have c1:(c:Rat)≠0:=fun e=>c0 (Rat.intCast_eq_zero_iff.1 e)
    have d1:((be:Int):Rat)≠0:=fun e=>sd (Rat.intCast_eq_zero_iff.1 e)
    rw [Rat.divInt_eq_div,Rat.divInt_eq_div,Rat.divInt_eq_div,Rat.intCast_add,Rat.intCast_mul,Rat.intCast_mul,Rat.intCast_mul,Rat.intCast_mul,Rat.intCast_pow,Rat.intCast_pow,Rat.pow_succ]
    have dkq:(((be:Int):Rat)^k)≠0:=by rw [←Rat.intCast_pow];exact fun e=>dk (Rat.intCast_eq_zero_iff.1 e)
    rw [es]
    generalize ((be:Int):Rat)^k=dk' at *
    generalize ((be:Int):Rat)=d at *
    generalize ((P (q.length-k):Int):Rat)=pp at *
    clear cq ev r2 r1 ih q2 p2 hP es
    grind
 have lq5:q.length≤5:=by omega
 have bn:((be:Int)^q.length)≠0:=Int.pow_ne_zero sd
 have key2:∀i,∃Q:Int,ln Q.natAbs<h+1+p.length∧cf q i=Rat.divInt Q (c*(be:Int)^q.length):=fun i=>by
  by_cases hi:i<q.length
  ·obtain ⟨k,hk⟩:∃k,q.length=i+k:=⟨q.length-i,by omega⟩
   obtain ⟨Q,q1,q2⟩:=key k (by omega)
   rw [show q.length-k=i by omega] at q2
   refine ⟨Q*(be:Int)^i,?_,?_⟩
   ·have m1:(Q*(be:Int)^i).natAbs≤k*B^(h+k)*B^i:=by
     rw [Int.natAbs_mul,Int.natAbs_pow,Int.natAbs_natCast]
     exact Nat.mul_le_mul q1 (Nat.pow_le_pow_left (Nat.le_of_lt b1) _)
    have e1:k*B^(h+k)*B^i=k*B^(h+q.length):=by rw [Nat.mul_assoc,←Nat.pow_add,hk,Nat.add_assoc,Nat.add_comm k i]
    rw [e1] at m1
    have m2:k*B^(h+q.length)<B^(h+q.length+1):=by
     rw [Nat.pow_succ,Nat.mul_comm]
     exact Nat.mul_lt_mul_of_pos_left (by rw [qBj];omega) (Nat.pow_pos (by decide))
    have:=lnB_of (Nat.lt_of_le_of_lt m1 m2)
    omega
   ·rw [q2,hk,Int.pow_add,Int.mul_comm ((be:Int)^i),←Int.mul_assoc,Rat.divInt_mul_right (Int.pow_ne_zero sd)]
  ·exact ⟨0,by
    have:ln (0:Int).natAbs=0:=by show ln 0=0;exact qF7
    omega,by rw [qCr (by omega)];exact (Rat.zero_divInt _).symm⟩
 refine ⟨c*(be:Int)^q.length,fun i=>Classical.choose (key2 i),Int.mul_ne_zero c0 bn,?_,fun i=>Classical.choose_spec (key2 i)⟩
 have m1:(c*(be:Int)^q.length).natAbs≤B^h*B^q.length:=by
  rw [Int.natAbs_mul,Int.natAbs_pow,Int.natAbs_natCast]
  exact Nat.mul_le_mul (Nat.le_of_lt cb) (Nat.pow_le_pow_left (Nat.le_of_lt b1) _)
 rw [←Nat.pow_add] at m1
 have:=lnB_of (Nat.lt_of_le_of_lt m1 (Nat.pow_lt_pow_right (show 1<B by decide) (Nat.lt_succ_self _)))
 omega
def addZ:List Int->List Int->List Int
 |[],q=>q
 |p,[]=>p
 |a::p,b::q=>(a+b)::addZ p q
def mulZ:List Int->List Int->List Int
 |[],_=>[]
 |a::p,q=>addZ (q.map (a* ·)) (0::mulZ p q)
def nrm:List Int->Nat
 |[]=>0
 |a::p=>a.natAbs+nrm p
def evZ:List Int->Rat->Rat
 |[],_=>0
 |a::p,x=>evZ p x*x+(a:Rat)
theorem evZ_add(x:Rat):∀p q:List Int,evZ (addZ p q) x=evZ p x+evZ q x
 |[],q=>by simp only [addZ,evZ];grind
 |a::p,[]=>by simp only [addZ,evZ];grind
 |a::p,b::q=>by
  simp only [addZ,evZ,evZ_add x p q,Rat.intCast_add]
  grind
theorem evZ_smul(x:Rat)(k:Int):∀p:List Int,evZ (p.map (k* ·)) x=(k:Rat)*evZ p x
 |[]=>by simp only [List.map_nil,evZ];grind
 |a::p=>by
  simp only [List.map_cons,evZ,evZ_smul x k p,Rat.intCast_mul]
  grind
theorem evZ_mul(x:Rat):∀p q:List Int,evZ (mulZ p q) x=evZ p x*evZ q x
 |[],q=>by simp only [mulZ,evZ];grind
 |a::p,q=>by
  simp only [mulZ,evZ_add,evZ_smul,evZ,evZ_mul x p q]
  have:((0:Int):Rat)=0:=rfl
  grind
theorem nrm_add:∀p q:List Int,nrm (addZ p q)≤nrm p+nrm q
 |[],q=>by simp [addZ,nrm]
 |a::p,[]=>by simp [addZ,nrm]
 |a::p,b::q=>by
  have:=nrm_add p q
  have:=Int.natAbs_add_le a b
  simp only [addZ,nrm]
  omega
theorem nrm_smul(k:Int):∀p:List Int,nrm (p.map (k* ·))=k.natAbs*nrm p
 |[]=>rfl
 |a::p=>by
  simp only [List.map_cons,nrm,nrm_smul k p,Int.natAbs_mul,Nat.mul_add]
theorem nrm_mul:∀p q:List Int,nrm (mulZ p q)≤nrm p*nrm q
 |[],q=>by simp [mulZ,nrm]
 |a::p,q=>by
  have h1:=nrm_add (q.map (a* ·)) (0::mulZ p q)
  have h2:=nrm_mul p q
  rw [nrm_smul] at h1
  have e:nrm (0::mulZ p q)=nrm (mulZ p q):=by simp [nrm]
  rw [e] at h1
  show nrm (addZ (q.map (a* ·)) (0::mulZ p q))≤(a.natAbs+nrm p)*nrm q
  rw [Nat.add_mul]
  omega
theorem nrm_get:∀(p:List Int) (i:Nat),(p.getD i 0).natAbs≤nrm p
 |[],i=>by simp
 |a::p,0=>by simp [nrm]
 |a::p,i+1=>by
  have:=nrm_get p i
  simp only [List.getD_cons_succ,nrm]
  omega
theorem evZ_evalP(x:Rat):∀p:List Int,evZ p x=qAb (p.map fun (z:Int)=>(z:Rat)) x
 |[]=>rfl
 |a::p=>by simp only [evZ,List.map_cons,qAb,evZ_evalP x p]
theorem ht_of_Z{p:List Rat}{q:List Int}{c:Int}{h:Nat}(c0:c≠0)(hc:c.natAbs<B^h)(hq:nrm q<B^h)(e:∀x,qAb p x*(c:Rat)=evZ q x):HtP (h+1) p:=by
 have c1:(c:Rat)≠0:=fun e=>c0 (Rat.intCast_eq_zero_iff.1 e)
 refine ⟨c,fun i=>q.getD i 0,c0,lnB_of hc,fun i=>⟨lnB_of (Nat.lt_of_le_of_lt (nrm_get q i) hq),?_⟩⟩
 have ev:∀x,qAb p x=qAb (smul (1/(c:Rat)) (q.map fun (z:Int)=>(z:Rat))) x:=fun x=>by
  rw [qA4,←evZ_evalP,←e x]
  grind
 have:=qA0 ev i
 rw [qA6] at this
 have e2:cf (q.map fun (z:Int)=>(z:Rat)) i=((q.getD i 0:Int):Rat):=by
  unfold cf
  rw [List.getD_eq_getElem?_getD,List.getElem?_map,List.getD_eq_getElem?_getD]
  cases q[i]? <;>rfl
 rw [this,e2,Rat.divInt_eq_div]
 grind
theorem sum_Z{N P Q:Int}{A:Nat}(hN:N≠0)(hP:P≠0){sq:Rat}(hs:sq*((P*P:Int):Rat)=((Q*Q:Int):Rat)):∀{l:List Rat},(∀v∈l,∃V:Int,V.natAbs≤A∧v*(N:Rat)=(V:Rat))->∃q:List Int,nrm q≤l.length*((A+N.natAbs)*(((N*P)*(N*P)).natAbs+(Q*Q).natAbs*((A+N.natAbs)*(A+N.natAbs)))*(((N*P)*(N*P)).natAbs+(Q*Q).natAbs*((A+N.natAbs)*(A+N.natAbs))))∧∀x,sumV l sq x*((N*((N*P)*(N*P))*((N*P)*(N*P)):Int):Rat)=evZ q x
 |[],_=>⟨[],by simp [nrm],fun x=>by simp only [sumV,evZ];grind⟩
 |v::l,h=>by
  obtain ⟨q,q1,q2⟩:=sum_Z hN hP hs (l:=l) fun w hw=>h w (List.mem_cons_of_mem _ hw)
  obtain ⟨V,v1,v2⟩:=h v List.mem_cons_self
  obtain ⟨S,hS⟩:∃S,A+N.natAbs=S:=⟨_,rfl⟩
  rw [hS] at q1 ⊢
  have n1:nrm [V, -N]≤S:=by simp only [nrm,Int.natAbs_neg];omega
  have n2:nrm (mulZ [V, -N] [V, -N])≤S*S:=Nat.le_trans (nrm_mul _ _) (Nat.mul_le_mul n1 n1)
  obtain ⟨w,hw⟩:∃w,w=addZ [(N*P)*(N*P)] ((mulZ [V, -N] [V, -N]).map (-(Q*Q)* ·)):=⟨_,rfl⟩
  have n3:nrm w≤((N*P)*(N*P)).natAbs+(Q*Q).natAbs*(S*S):=by
   rw [hw]
   refine Nat.le_trans (nrm_add _ _) ?_
   rw [nrm_smul,Int.natAbs_neg]
   have:=Nat.mul_le_mul_left (Q*Q).natAbs n2
   simp only [nrm]
   omega
  have n4:nrm (mulZ (mulZ [V, -N] w) w)≤S*(((N*P)*(N*P)).natAbs+(Q*Q).natAbs*(S*S))*(((N*P)*(N*P)).natAbs+(Q*Q).natAbs*(S*S)):=
   Nat.le_trans (nrm_mul _ _) (Nat.mul_le_mul (Nat.le_trans (nrm_mul _ _) (Nat.mul_le_mul n1 n3)) n3)
  refine ⟨addZ (mulZ (mulZ [V, -N] w) w) q,?_,fun x=>?_⟩
  ·refine Nat.le_trans (nrm_add _ _) ?_
   rw [List.length_cons,Nat.add_mul,Nat.one_mul]
   omega
  ·rw [evZ_add,evZ_mul,evZ_mul,←q2 x]
   have ew:evZ w x=(((N*P)*(N*P):Int):Rat)-((Q*Q:Int):Rat)*(((V:Rat)-(N:Rat)*x)*((V:Rat)-(N:Rat)*x)):=by
    rw [hw,evZ_add,evZ_smul,evZ_mul]
    simp only [evZ,Rat.intCast_neg]
    grind
   have el:evZ [V, -N] x=(V:Rat)-(N:Rat)*x:=by simp only [evZ,Rat.intCast_neg];grind
   rw [ew,el]
   have ed:(V:Rat)-(N:Rat)*x=(N:Rat)*(v-x):=by rw [←v2];grind
   rw [ed]
   show (sumV (v::l) sq x)*_=_
   have es:sumV (v::l) sq x=psiV (v-x) sq+sumV l sq x:=by simp only [sumV]
   rw [es]
   unfold psiV
   have e5:(((N*P)*(N*P):Int):Rat)=(N:Rat)*(N:Rat)*((P*P:Int):Rat):=by
    rw [Rat.intCast_mul,Rat.intCast_mul,Rat.intCast_mul];grind
   rw [Rat.intCast_mul,Rat.intCast_mul,e5,←hs]
   generalize v-x=d at *
   generalize ((P*P:Int):Rat)=pp at *
   generalize sumV l sq x=z at *
   grind
def evH(al be:Int):List Int->Int
 |[]=>0
 |a::p=>a*be^p.length+al*evH al be p
theorem evH_evZ{al be:Int}(hb:be≠0):∀(p:List Int) (a:Int),evZ (a::p) ((al:Rat)/(be:Rat))*(be:Rat)^p.length=((evH al be (a::p):Int):Rat)
 |[],a=>by
  simp only [evZ,evH,List.length_nil,Int.pow_zero,Rat.pow_zero]
  rw [Rat.intCast_add,Rat.intCast_mul,Rat.intCast_mul]
  have c1:((1:Int):Rat)=1:=rfl
  have c0:((0:Int):Rat)=0:=rfl
  rw [c1,c0]
  grind
 |b::p,a=>by
  have ih:=evH_evZ (al:=al) hb p b
  have e:evZ (a::b::p) ((al:Rat)/(be:Rat))=evZ (b::p) ((al:Rat)/(be:Rat))*((al:Rat)/(be:Rat))+(a:Rat):=rfl
  have e2:evH al be (a::b::p)=a*be^(p.length+1)+al*evH al be (b::p):=rfl
  have bq:(be:Rat)≠0:=fun k=>hb (Rat.intCast_eq_zero_iff.1 k)
  have e3:=qAm (a:=(al:Rat)) (b:=(be:Rat)) bq
  rw [e,e2,Rat.intCast_add,Rat.intCast_mul,Rat.intCast_mul,Rat.intCast_pow,←ih,List.length_cons,Rat.pow_succ]
  generalize evZ (b::p) ((al:Rat)/(be:Rat))=z at *
  generalize (be:Rat)^p.length=w at *
  generalize (al:Rat)/(be:Rat)=f at *
  rw [←e3]
  grind
theorem evH_last{al be:Int}:∀(p:List Int) (a:Int),be∣evH al be (a::p)-(a::p).getLastD 0*al^p.length
 |[],a=>by simp [evH]
 |b::p,a=>by
  obtain ⟨k,hk⟩:=evH_last (al:=al) (be:=be) p b
  have e2:evH al be (a::b::p)=a*be^(p.length+1)+al*evH al be (b::p):=rfl
  have e3:(a::b::p).getLastD 0=(b::p).getLastD 0:=rfl
  rw [e2,e3,List.length_cons]
  refine ⟨a*be^p.length+al*k,?_⟩
  rw [Int.pow_succ,Int.pow_succ]
  have:evH al be (b::p)=(b::p).getLastD 0*al^p.length+be*k:=by omega
  rw [this]
  grind
theorem evH_low{al be:Int}(ha:al≠0)(hc:Nat.Coprime al.natAbs be.natAbs):∀(p:List Int),evH al be p=0->(∃a∈p,a≠0)->∃a∈p,a≠0∧al.natAbs∣a.natAbs
 |[],_,h=>absurd h (by simp)
 |a::p,h,hz=>by
  have e:a*be^p.length+al*evH al be p=0:=h
  by_cases a0:a=0
  ·subst a0
   have e1:al*evH al be p=0:=by rw [Int.zero_mul] at e;omega
   have e2:=(Int.mul_eq_zero.1 e1).resolve_left ha
   obtain ⟨b,hb,b0⟩:=hz
   have hb':b∈p:=by
    rcases List.mem_cons.1 hb with h|h
    ·exact absurd h b0
    ·exact h
   obtain ⟨w,w1,w2⟩:=evH_low ha hc p e2 ⟨b,hb',b0⟩
   exact ⟨w,List.mem_cons_of_mem _ w1,w2⟩
  ·refine ⟨a,List.mem_cons_self,a0,?_⟩
   have d:al∣a*be^p.length:=⟨-evH al be p,by rw [Int.mul_neg];omega⟩
   have d2:=Int.natAbs_dvd_natAbs.2 d
   rw [Int.natAbs_mul,Int.natAbs_pow] at d2
   exact (Nat.Coprime.pow_right _ hc).dvd_of_dvd_mul_right d2
theorem root_ok{p:List Rat}{h:Nat}(tp:Tr p)(p0:p≠[])(hp:HtP (h+2) p){s:Rat}(hz:qAb p s=0):okQ (h+2) s:=by
 obtain ⟨c,P,c0,hc,hP⟩:=hp
 obtain ⟨q,hq⟩:∃q,q=(List.range p.length).map P:=⟨_,rfl⟩
 have lq:q.length=p.length:=by rw [hq,List.length_map,List.length_range]
 have gq:∀a∈q,ln a.natAbs<h+2:=fun a ha=>by
  rw [hq] at ha
  obtain ⟨i,_,rfl⟩:=List.mem_map.1 ha
  exact (hP i).1
 have c1:(c:Rat)≠0:=fun e=>c0 (Rat.intCast_eq_zero_iff.1 e)
 have ep:p=q.map fun (z:Int)=>Rat.divInt z c:=by
  refine List.ext_getElem (by rw [List.length_map,lq]) fun i h1 h2=>?_
  have:=(hP i).2
  rw [qN4 h1] at this
  simp [hq,this]
 have ev:∀(q:List Int) (x:Rat),qAb (q.map fun (z:Int)=>Rat.divInt z c) x*(c:Rat)=evZ q x:=fun q x=>by
  induction q with
  |nil=>simp only [List.map_nil,qAb,evZ];grind
  |cons a q ih=>
   simp only [List.map_cons,qAb,evZ,←ih]
   rw [Rat.divInt_eq_div]
   have:=qAm (a:=(a:Rat)) (b:=(c:Rat)) c1
   grind
 have e0:evZ q s=0:=by rw [←ev q s,←ep,hz,Rat.zero_mul]
 by_cases s0:s=0
 ·rw [s0];exact qB9 (by omega)
 have be0:(s.den:Int)≠0:=by have:=s.den_nz;omega
 have es:s=(s.num:Rat)/((s.den:Int):Rat):=by rw [←Rat.divInt_eq_div];exact (Rat.num_divInt_den s).symm
 match hqq:q with
 |[]=>rw [List.length_nil] at lq;exact absurd (List.length_eq_zero_iff.1 lq.symm) p0
 |a::t=>
  have eh:evH s.num s.den (a::t)=0:=by
   have:=evH_evZ (al:=s.num) be0 t a
   rw [←es,e0,Rat.zero_mul] at this
   exact Rat.intCast_eq_zero_iff.1 this.symm
  have cop:Nat.Coprime s.num.natAbs (s.den:Int).natAbs:=by rw [Int.natAbs_natCast];exact s.reduced
  -- the last coefficient is not 0
  have lz:(a::t).getLastD 0≠0:=fun e=>by
   have hl:=qCo tp p0
   apply hl
   have e2:lead p=p.getLastD 0:=by unfold lead cf;rw [List.getD_eq_getElem?_getD,List.getLastD_eq_getLast?,List.getLast?_eq_getElem?]
   rw [e2,ep]
   have:∀(l:List Int),(l.map fun (z:Int)=>Rat.divInt z c).getLastD 0=Rat.divInt (l.getLastD 0) c:=fun l=>by
    rw [List.getLastD_eq_getLast?,List.getLastD_eq_getLast?,List.getLast?_map]
    cases l.getLast? with
    |none=>exact (Rat.zero_divInt c).symm
    |some v=>rfl
   rw [this,e,Rat.zero_divInt]
  have lm:(a::t).getLastD 0∈a::t:=by
   rw [List.getLastD_eq_getLast?,List.getLast?_eq_some_getLast (by simp)]
   exact List.getLast_mem _
  have n0:s.num≠0:=fun e=>s0 (by rw [es,e];have:((0:Int):Rat)=0:=rfl;rw [this,Rat.div_def,Rat.zero_mul])
  constructor
  ·obtain ⟨w,w1,w2,w3⟩:=evH_low n0 cop _ eh ⟨_,lm,lz⟩
   have:=Nat.le_of_dvd (by omega) w3
   exact Nat.lt_of_le_of_lt (qBm this) (gq w w1)
  ·have d:=evH_last (al:=s.num) (be:=s.den) t a
   rw [eh] at d
   have d2:(s.den:Int)∣(a::t).getLastD 0*s.num^t.length:=by
    have:=Int.dvd_neg.2 d
    rwa [show-(0-(a::t).getLastD 0*s.num^t.length)=(a::t).getLastD 0*s.num^t.length by omega] at this
   have d3:=Int.natAbs_dvd_natAbs.2 d2
   rw [Int.natAbs_mul,Int.natAbs_pow,Int.natAbs_natCast] at d3
   rw [Int.natAbs_natCast] at cop
   have d4:=(Nat.Coprime.pow_right t.length cop.symm).dvd_of_dvd_mul_right d3
   have:=Nat.le_of_dvd (by omega) d4
   exact Nat.lt_of_le_of_lt (qBm this) (gq _ lm)
def capf:Nat->Nat
 |6=>5
 |5=>11
 |4=>16
 |3=>20
 |2=>23
 |_=>25
theorem qMs(n:Nat):5≤capf n∧capf n≤25:=by
 unfold capf
 split<;>omega
theorem wo_cap{s:Rat}(os:okQ 2 s):∀(n:Nat) {p:List Rat},Tr p->p≠[]->p.length≤6->HtP (capf p.length) p->HtP (capf (woP n p s).length) (woP n p s)
 |0,p,tp,p0,lp,hp=>hp
 |n+1,p,tp,p0,lp,hp=>by
  unfold woP
  split
  ·next hr=>
   obtain ⟨tq,q0,lq⟩:=quo_lin tp p0 hr
   obtain ⟨c1,c2⟩:=qMs p.length
   have hz:=(rem_lin tp s).1.1 hr
   have l1:=List.length_pos_iff.2 p0
   have hq:=lin_quo (h:=capf p.length-1) tp p0 (by rw [Nat.sub_add_cancel (by omega)];exact hp) lp os hz
   rw [Nat.sub_add_cancel (by omega)] at hq
   have l2:=List.length_pos_iff.2 q0
   refine wo_cap os n tq q0 (by omega) (hq.mono ?_)
   have gs:p.length=2∨p.length=3∨p.length=4∨p.length=5∨p.length=6:=by omega
   rcases gs with e|e|e|e|e
   ·rw [show (divP p [-s,1]).1.length=1 by omega,e];decide
   ·rw [show (divP p [-s,1]).1.length=2 by omega,e];decide
   ·rw [show (divP p [-s,1]).1.length=3 by omega,e];decide
   ·rw [show (divP p [-s,1]).1.length=4 by omega,e];decide
   ·rw [show (divP p [-s,1]).1.length=5 by omega,e];decide
  ·exact hp
end Go.Vw
namespace Go.Proofs.YtejigedigmagdaaGreat
open Go.Vw
attribute [local irreducible] awp awpL awpR qKb
theorem two_coef{g:List Rat}(h:g.length=2)(hl:lead g=1):∃b,g=[b,1]:=by
 match g,h with
 |[b,c],_=>
  have:c=1:=hl
  exact ⟨b,by rw [this]⟩
theorem qJc{P:List Rat}(tP:Tr P)(P0:P≠[])(lP:P.length≤6)(hP:HtP (capf P.length) P):∃H l,HtP H (ctrQ P)∧(ctrQ P).length≤6∧(H+3)*3^(ctrQ P).length≤25000∧H≤400∧HtP l (gcdP P (derP P))∧l≤60:=by
 obtain ⟨c1,c2⟩:=qMs P.length
 have td:Tr (derP P):=qAl _
 have hd:=qUo hP (by omega)
 have ld:(derP P).length<P.length:=by
  have:=qK2 (p:=P) (by rw [qAr tP];exact P0)
  rwa [qAr tP] at this
 have lp1:=qA2 P0
 obtain ⟨g1,g2⟩:=qEo tP td
 obtain ⟨g3,g4⟩:=g2 (.inl P0)
 have gl:=qA2 g3
 have glp:=gcd_len _ tP td (Nat.le_refl _)
 have key:∀l m c h:Nat,HtP l (gcdP P (derP P))->l≤m->P.length+1-(gcdP P (derP P)).length=c->capf P.length=h->(h+c*m+m+3)*3^c≤25000->h+c*m+m≤400->m≤60->∃H l,HtP H (ctrQ P)∧(ctrQ P).length≤6∧(H+3)*3^(ctrQ P).length≤25000∧H≤400∧HtP l (gcdP P (derP P))∧l≤60:=fun l m c h hl hm hc hh hb hb3 hm2=>by
  rw [hh] at hP c1
  have hQ:=divP_ht tP g1 g3 hP hl
  have lQ:=(divP_q tP g1 g3 hP hl (by omega)).2
  rw [hc] at hQ lQ
  have q1:=Nat.mul_le_mul_left c hm
  have q2:(3:Nat)^(divP P (gcdP P (derP P))).1.length≤3^c:=Nat.pow_le_pow_right (by decide) lQ
  refine ⟨_,l,hQ,by show (divP P (gcdP P (derP P))).1.length≤6;omega,Nat.le_trans (Nat.mul_le_mul (show _≤h+c*m+m+3 by omega) q2) hb,by omega,hl,by omega⟩
 have ps:P.length=1∨P.length=2∨P.length=3∨P.length=4∨P.length=5∨P.length=6:=by omega
 by_cases e1:(gcdP P (derP P)).length=1
 ·have h3:=ht_one e1 g4
  rcases ps with e|e|e|e|e|e
  ·exact key 3 3 1 25 h3 (by decide) (by omega) (by rw [e];rfl) (by decide) (by decide) (by decide)
  ·exact key 3 3 2 23 h3 (by decide) (by omega) (by rw [e];rfl) (by decide) (by decide) (by decide)
  ·exact key 3 3 3 20 h3 (by decide) (by omega) (by rw [e];rfl) (by decide) (by decide) (by decide)
  ·exact key 3 3 4 16 h3 (by decide) (by omega) (by rw [e];rfl) (by decide) (by decide) (by decide)
  ·exact key 3 3 5 11 h3 (by decide) (by omega) (by rw [e];rfl) (by decide) (by decide) (by decide)
  ·exact key 3 3 6 5 h3 (by decide) (by omega) (by rw [e];rfl) (by decide) (by decide) (by decide)
 by_cases e2:(gcdP P (derP P)).length=2
 ·obtain ⟨b,hb⟩:=two_coef e2 g4
  have hz:qAb P (-b)=0:=by
   rw [qGh tP P0,hb]
   simp only [qAb]
   grind
  have or:=root_ok (h:=capf P.length-2) tP P0 (by rw [Nat.sub_add_cancel (by omega)];exact hP) hz
  rw [Nat.sub_add_cancel (by omega)] at or
  have hg:HtP (capf P.length) (gcdP P (derP P)):=by
   have:=ht_lin or (by omega)
   rw [hb]
   rwa [Rat.neg_neg] at this
  rcases ps with e|e|e|e|e|e
  ·omega
  ·exact key _ 23 1 23 hg (by rw [e];decide) (by omega) (by rw [e];rfl) (by decide) (by decide) (by decide)
  ·exact key _ 20 2 20 hg (by rw [e];decide) (by omega) (by rw [e];rfl) (by decide) (by decide) (by decide)
  ·exact key _ 16 3 16 hg (by rw [e];decide) (by omega) (by rw [e];rfl) (by decide) (by decide) (by decide)
  ·exact key _ 11 4 11 hg (by rw [e];decide) (by omega) (by rw [e];rfl) (by decide) (by decide) (by decide)
  ·exact key _ 5 5 5 hg (by rw [e];decide) (by omega) (by rw [e];rfl) (by decide) (by decide) (by decide)
 by_cases dne:derP P=[]
 ·have hm:HtP (capf P.length+1) (gcdP P (derP P)):=by rw [dne,qG3];exact hP.monic
  have gq:(gcdP P (derP P)).length=P.length:=by rw [dne,qG3];exact qBd _ _
  rcases ps with e|e|e|e|e|e
  ·omega
  ·omega
  ·exact key _ 21 1 20 hm (by rw [e];decide) (by omega) (by rw [e];rfl) (by decide) (by decide) (by decide)
  ·exact key _ 17 1 16 hm (by rw [e];decide) (by omega) (by rw [e];rfl) (by decide) (by decide) (by decide)
  ·exact key _ 12 1 11 hm (by rw [e];decide) (by omega) (by rw [e];rfl) (by decide) (by decide) (by decide)
  ·exact key _ 6 1 5 hm (by rw [e];decide) (by omega) (by rw [e];rfl) (by decide) (by decide) (by decide)
 have bud:(2*capf P.length+5*(capf P.length+1)+5)*5^P.length*2^(6-P.length)≤703125:=by
  rcases ps with e|e|e|e|e|e<;>(rw [e];decide)
 obtain ⟨h',g5,g6⟩:=gcdPot (N:=6) _ tP td P0 hP hd (fun e=>absurd e dne) ld lP bud (Nat.le_refl _)
 have gs:(gcdP P (derP P)).length=3∨(gcdP P (derP P)).length=4∨(gcdP P (derP P)).length=5∨(gcdP P (derP P)).length=6:=by omega
 rcases gs with f|f|f|f
 ·rw [f] at g6
  rcases ps with e|e|e|e|e|e
  ·omega
  ·omega
  ·exact key _ 59 1 20 g5 (by omega) (by omega) (by rw [e];rfl) (by decide) (by decide) (by decide)
  ·exact key _ 59 2 16 g5 (by omega) (by omega) (by rw [e];rfl) (by decide) (by decide) (by decide)
  ·exact key _ 59 3 11 g5 (by omega) (by omega) (by rw [e];rfl) (by decide) (by decide) (by decide)
  ·exact key _ 59 4 5 g5 (by omega) (by omega) (by rw [e];rfl) (by decide) (by decide) (by decide)
 ·rw [f] at g6
  rcases ps with e|e|e|e|e|e
  ·omega
  ·omega
  ·omega
  ·exact key _ 24 1 16 g5 (by omega) (by omega) (by rw [e];rfl) (by decide) (by decide) (by decide)
  ·exact key _ 24 2 11 g5 (by omega) (by omega) (by rw [e];rfl) (by decide) (by decide) (by decide)
  ·exact key _ 24 3 5 g5 (by omega) (by omega) (by rw [e];rfl) (by decide) (by decide) (by decide)
 ·rw [f] at g6
  rcases ps with e|e|e|e|e|e
  ·omega
  ·omega
  ·omega
  ·omega
  ·exact key _ 10 1 11 g5 (by omega) (by omega) (by rw [e];rfl) (by decide) (by decide) (by decide)
  ·exact key _ 10 2 5 g5 (by omega) (by omega) (by rw [e];rfl) (by decide) (by decide) (by decide)
 ·rw [f] at g6
  rcases ps with e|e|e|e|e|e
  ·omega
  ·omega
  ·omega
  ·omega
  ·omega
  ·exact key _ 4 1 5 g5 (by omega) (by omega) (by rw [e];rfl) (by decide) (by decide) (by decide)
theorem qRh{P:List Rat}(tP:Tr P)(P0:P≠[])(lP:P.length≤6)(hP:HtP (capf P.length) P):PolOk P:=by
 obtain ⟨c1,c2⟩:=qMs P.length
 obtain ⟨H,l,q1,q2,q3,q4,q5,q6⟩:=qJc tP P0 lP hP
 refine ⟨by omega,fun x hx=>(hP.okL x hx).mono (by omega),fun _=>?_⟩
 rw [qAr tP]
 have p3:(3:Nat)^P.length≤3^6:=Nat.pow_le_pow_right (by decide) lP
 have m1:=Nat.mul_le_mul (show capf P.length+2≤27 by omega) p3
 have m2:=Nat.mul_le_mul (show P.length+1-(gcdP P (derP P)).length≤6 by have:=qA2 (qEo tP (qAl (derC P)) |>.2 (.inl P0)).1;rw [show qAd (derC P)=derP P from rfl] at this;omega) q6
 exact ctrOk_mk tP P0 hP (by omega) (by omega) (Nat.le_trans m1 (by decide)) q5 q1 (by omega) (Nat.le_trans q3 (by decide))
theorem deep_cap{P:List Rat}(tP:Tr P)(P0:P≠[])(lP:P.length≤6)(hP:HtP (capf P.length) P):Deep (cfn P) 463000:=by
 obtain ⟨H,l,q1,q2,q3,q4,q5,q6⟩:=qJc tP P0 lP hP
 exact deep_of (by rw [qAr tP];exact P0) (by rw [qAr tP];exact q1) (by rw [qAr tP];exact q2) (by rw [qAr tP];exact q3) q4
end Go.Proofs.YtejigedigmagdaaGreat
namespace Go.Vw
theorem as_Z{p:List Rat}{h:Nat}(hp:HtP (h+1) p):∃(c:Int) (q:List Int),c≠0∧c.natAbs<B^h∧q.length=p.length∧∀x,qAb p x*(c:Rat)=evZ q x:=by
 obtain ⟨c,P,c0,hc,hP⟩:=hp
 obtain ⟨q,hq⟩:∃q,q=(List.range p.length).map P:=⟨_,rfl⟩
 have lq:q.length=p.length:=by rw [hq,List.length_map,List.length_range]
 have c1:(c:Rat)≠0:=fun e=>c0 (Rat.intCast_eq_zero_iff.1 e)
 have ep:p=q.map fun (z:Int)=>Rat.divInt z c:=by
  refine List.ext_getElem (by rw [List.length_map,lq]) fun i h1 h2=>?_
  have:=(hP i).2
  rw [qN4 h1] at this
  simp [hq,this]
 have ev:∀(q:List Int) (x:Rat),qAb (q.map fun (z:Int)=>Rat.divInt z c) x*(c:Rat)=evZ q x:=fun q x=>by
  induction q with
  |nil=>simp only [List.map_nil,qAb,evZ];grind
  |cons a q ih=>
   simp only [List.map_cons,qAb,evZ,←ih]
   rw [Rat.divInt_eq_div]
   have:=qAm (a:=(a:Rat)) (b:=(c:Rat)) c1
   grind
 exact ⟨c,q,c0,ln_lt hc,lq,fun x=>by rw [←ev q x,←ep]⟩
theorem ab_int{z:Int}(h:z≠0):(1:Rat)≤ab (z:Rat):=by
 unfold ab
 split
 ·next hlt=>
  have h1:z<0:=Rat.intCast_lt_intCast.1 (show (z:Rat)<((0:Int):Rat) from hlt)
  have h2:((1:Int):Rat)≤((-z:Int):Rat):=Rat.intCast_le_intCast.2 (by omega)
  rw [Rat.intCast_neg] at h2
  exact h2
 ·next hge=>
  have h1:¬z<0:=fun e=>hge (show (z:Rat)<((0:Int):Rat) from Rat.intCast_lt_intCast.2 e)
  have h2:((1:Int):Rat)≤((z:Int):Rat):=Rat.intCast_le_intCast.2 (by omega)
  exact h2
theorem ab_nat_le{n k:Nat}(h:n≤2^k):((n:Nat):Rat)≤twoQ k:=by
 rw [qHe];exact_mod_cast h
theorem ab_natAbs(z:Int):ab (z:Rat)=((z.natAbs:Nat):Rat):=by
 unfold ab
 split
 ·next hlt=>
  have h1:z<0:=Rat.intCast_lt_intCast.1 (show (z:Rat)<((0:Int):Rat) from hlt)
  have:(-z:Int)=(z.natAbs:Int):=by omega
  rw [←Rat.intCast_neg,this];rfl
 ·next hge=>
  have h1:¬z<0:=fun e=>hge (show (z:Rat)<((0:Int):Rat) from Rat.intCast_lt_intCast.2 e)
  have:z=(z.natAbs:Int):=by omega
  conv=>lhs;rw [this]
  rfl
theorem low_at{Q:List Rat}{H:Nat}(Q0:Q≠[])(hQ:HtP (H+1) Q)(lQ:Q.length≤6){D M j:Nat}(D0:D≠0)(hD:D<4294967296*4294967296){c:Rat}(hc:Dy D M j c)(hz:qAb Q c≠0):hw 1 (32*H+5*(64+j))≤ab (qAb Q c):=by
 obtain ⟨cc,q,c0,cb,lq,ev⟩:=as_Z hQ
 obtain ⟨A,_,hA⟩:=hc
 have E0:((D*2^j:Nat):Int)≠0:=by
  have:=Nat.mul_pos (Nat.pos_of_ne_zero D0) (Nat.pow_pos (n:=j) (show 0<2 by decide))
  omega
 have Eb:D*2^j≤2^(64+j):=by
  rw [Nat.pow_add]
  exact Nat.mul_le_mul_right _ (Nat.le_of_lt (Nat.lt_of_lt_of_le hD (by decide)))
 generalize D*2^j=E at *
 rw [Rat.divInt_eq_div] at hA
 match q,lq with
 |[],lq=>exact absurd (List.length_eq_zero_iff.1 lq.symm) Q0
 |a::t,lq=>
  have h1:=evH_evZ (al:=A) E0 t a
  rw [←hA,←ev c] at h1
  have c1:(cc:Rat)≠0:=fun e=>c0 (Rat.intCast_eq_zero_iff.1 e)
  have e1:((E:Int):Rat)≠0:=fun e=>E0 (Rat.intCast_eq_zero_iff.1 e)
  have hn:evH A E (a::t)≠0:=fun e=>by
   rw [e] at h1
   have z0:((0:Int):Rat)=0:=rfl
   rw [z0] at h1
   rcases Rat.mul_eq_zero.1 h1 with k|k
   ·rcases Rat.mul_eq_zero.1 k with k|k
    ·exact hz k
    ·exact c1 k
   ·rw [←Rat.intCast_pow] at k
    exact Int.pow_ne_zero E0 (Rat.intCast_eq_zero_iff.1 k)
  have g1:=ab_int hn
  rw [←h1,qEu,qEu,←Rat.intCast_pow,ab_natAbs,ab_natAbs,Int.natAbs_pow,Int.natAbs_natCast] at g1
  have u1:((cc.natAbs:Nat):Rat)≤twoQ (32*H):=ab_nat_le (by
   refine Nat.le_of_lt (Nat.lt_of_lt_of_le cb ?_)
   rw [Nat.pow_mul]
   exact Nat.pow_le_pow_left (by decide) _)
  have lt5:t.length≤5:=by rw [List.length_cons] at lq;omega
  have u2:((E^t.length:Nat):Rat)≤twoQ (5*(64+j)):=ab_nat_le (by
   refine Nat.le_trans (Nat.pow_le_pow_left Eb _) ?_
   rw [←Nat.pow_mul]
   refine Nat.pow_le_pow_right (by decide) ?_
   rw [Nat.mul_comm]
   exact Nat.mul_le_mul_right _ lt5)
  refine hw_le_of ?_
  rw [qQr]
  have n0:=qAo (qAb Q c)
  have n1:(0:Rat)≤((cc.natAbs:Nat):Rat):=Rat.natCast_nonneg
  have k1:=qAt (Rat.le_refl (a:=ab (qAb Q c))) u1 n1 n0
  have k2:=qAt k1 u2 Rat.natCast_nonneg (Rat.mul_nonneg n0 (Rat.le_of_lt (qDj _)))
  rw [←Rat.mul_assoc]
  exact Rat.le_trans g1 k2
theorem still{ch:List Rat->List Rat}(hc:ChS ch){Q:List Rat}(tQ:Tr Q)(hb:Bez Q (derP Q)){n:Nat}(hn:Q.length<n){lo hi:Rat}(l1: -4096≤lo)(h1:hi≤4096)(hlt:lo<hi)(hs:∀z,lo≤z->z≤hi->qAb Q z≠0∧(0<qAb Q lo↔0<qAb Q z)):vrs ((qBf ch n Q (derP Q)).map qAb) lo-vrs ((qBf ch n Q (derP Q)).map qAb) hi=0:=by
 have dom:∀z,lo≤z->z≤hi->ab z≤4096:=fun z a b=>qK9 (by grind) (by grind)
 obtain ⟨e,he,hv⟩:=qIn hc (X:=4096) (by decide) tQ hb hn
 generalize vrs ((qBf ch n Q (derP Q)).map qAb)=V at *
 refine ways2 (R:=fun x y=>V x-V y=0) (fun x y z a b=>by omega) he hlt fun x y a b c d=>?_
 rw [hv x y (dom x a (by grind)) (dom y (by grind) c) b d]
 obtain ⟨x1,x2⟩:=hs x a (by grind)
 obtain ⟨y1,y2⟩:=hs y (by grind) c
 rw [if_neg (by unfold qGp;grind)]
theorem near_sign{Q:List Rat}{H E:Nat}(hQ:∀i,okQ H (cf Q i)){c:Rat}(dc:ab c≤4096)(hE:hw 1 E≤ab (qAb Q c)){z:Rat}(dz:ab z≤4096)(hz:ab (c-z)≤hw 1 (E+(32*H+14*Q.length)+2)):qAb Q z≠0∧(0<qAb Q c↔0<qAb Q z):=by
 have pe:=qL2 E
 have k:=lp_up hQ c z dc dz
 have k2:=qAt (Rat.le_refl (a:=twoQ (32*H+14*Q.length))) hz (qAo _) (Rat.le_of_lt (qDj _))
 have e1:hw 1 (E+(32*H+14*Q.length)+2)=hw 1 E*hw 1 (32*H+14*Q.length)*hw 1 2:=by rw [qLm,qLm]
 have e2:=qKz 1 (32*H+14*Q.length)
 have e3:hw 1 2*4=1:=by decide+kernel
 rw [e1] at k2
 generalize hw 1 (32*H+14*Q.length)=u at *
 generalize twoQ (32*H+14*Q.length)=w at *
 generalize hw 1 2=v at *
 have e4:w*(hw 1 E*u*v)*4=hw 1 E:=by
  have:w*(hw 1 E*u*v)*4=hw 1 E*(u*w)*(v*4):=by grind
  rw [this,e2,e3,Rat.mul_one,Rat.mul_one]
 have d4:ab (qAb Q c-qAb Q z)*4≤hw 1 E:=by grind
 have:=qOc (u:=qAb Q c) (v:=qAb Q z) pe hE (by have:=qAo (qAb Q c-qAb Q z);grind)
 grind
end Go.Vw
namespace Go.Proofs.YtejigedigmagdaaGreat
open Go.Vw
attribute [local irreducible] awp awpL awpR qKb
theorem qTg{W:List Rat}(tW:Tr W)(a b:Rat):cfn W a b=cntC qAz W a b:=by
 unfold cfn cntF cntC
 rw [qAr tW,qN9,qN9]
 rfl
theorem cfn_still{W:List Rat}(tW:Tr W)(W0:W≠[]){lo hi:Rat}(l1: -4096≤lo)(h1:hi≤4096)(hlt:lo<hi)(hs:∀z,lo≤z->z≤hi->qAb (ctrQ W) z≠0∧(0<qAb (ctrQ W) lo↔0<qAb (ctrQ W) z)):cfn W lo hi=0:=by
 obtain ⟨tQ,hb⟩:=quo_tr tW W0
 rw [qTg tW]
 unfold cntC
 rw [if_pos hlt]
 exact still qDx tQ hb (Nat.lt_succ_self _) l1 h1 hlt hs
structure WOk (W:List Rat) (a b:Rat):Prop where
 tr:Tr W
 ne:W≠[]
 len:W.length≤6
 ht:HtP (capf W.length) W
 na:qAb W a≠0
 nb:qAb W b≠0
theorem WOk.deep{W:List Rat}{a b:Rat}(h:WOk W a b):Deep (cfn W) 463000:=deep_cap h.tr h.ne h.len h.ht
theorem WOk.pol{W:List Rat}{a b:Rat}(h:WOk W a b):PolOk W:=qRh h.tr h.ne h.len h.ht
theorem quo_ht{W:List Rat}{a b:Rat}(h:WOk W a b):HtP (400+1) (ctrQ W)∧(ctrQ W).length≤6∧ctrQ W≠[]:=by
 obtain ⟨H,l,q1,q2,q3,q4,q5,q6⟩:=qJc h.tr h.ne h.len h.ht
 refine ⟨q1.mono (by omega),q2,fun e=>?_⟩
 have:=(qQc h.tr h.ne a).1 (by show qAb (ctrQ W) a=0;rw [e];rfl)
 exact h.na this
theorem near_any{W:List Rat}{a b:Rat}(h:WOk W a b){D M j:Nat}(D0:D≠0)(hD:D<4294967296*4294967296)(hj:j≤463013){c:Rat}(hc:Dy D M j c)(c1: -4000≤c)(c2:c≤4000)(hz:qAb W c≠0){z:Rat}(hcz:ab (c-z)≤hw 1 2345000):qAb (ctrQ W) z≠0∧(0<qAb (ctrQ W) c↔0<qAb (ctrQ W) z):=by
 obtain ⟨q1,q2,q3⟩:=quo_ht h
 have hz':qAb (ctrQ W) c≠0:=fun e=>hz ((qQc h.tr h.ne c).1 e)
 have lo:=low_at q3 q1 q2 D0 hD hc hz'
 have w1:hw 1 2345000≤1:=by
  have:=qHl (show 0≤2345000 by omega)
  exact this
 have hcz1: -1≤c-z∧c-z≤1:=by
  have:=qTk (c-z)
  have h2:=qTk (z-c)
  have e:ab (z-c)=ab (c-z):=by unfold ab;split<;>split<;>grind
  rw [e] at h2
  grind
 refine near_sign (H:=401) (fun i=>(q1.ok i).mono (by decide)) (qK9 (by grind) (by grind)) lo (qK9 (by grind) (by grind)) (Rat.le_trans hcz (qHl ?_))
 omega
theorem clear_right{W:List Rat}{a b:Rat}(h:WOk W a b){D M j:Nat}(D0:D≠0)(hD:D<4294967296*4294967296)(hj:j≤463013){c:Rat}(hc:Dy D M j c)(c1: -4000≤c)(c2:c≤4000){y:Rat}(hy:c<y)(hw':y-c≤hw 1 2345000):cfn W c y=0:=by
 have hd:=h.deep
 have w1:hw 1 2345000≤hw 1 463001:=qHl (by omega)
 have w2:hw 1 463001≤1:=qHl (show 0≤463001 by omega)
 have p1:=qL2 463001
 by_cases hz:qAb W c=0
 ·have r:=qJa qDx h.tr h.ne (a:=c-hw 1 463001) (b:=c) (s:=c) (by grind) Rat.le_refl hz
  rw [←qTg h.tr] at r
  have ad:=hd.add (c-hw 1 463001) c y (by grind) hy
  have nn:=hd.nonneg c y hy
  have e1:hw 1 463001+hw 1 463001=hw 1 463000:=by
   show hw 1 463000/2+hw 1 463000/2=hw 1 463000
   grind
  have dp:=hd.deep (c-hw 1 463001) y (by grind) (by grind) (by grind) (by grind)
  omega
 ·have nz:=fun z (h1:c≤z) (h2:z≤y)=>near_any h D0 hD hj hc c1 c2 hz (z:=z) (qK9 (by grind) (by grind))
  exact cfn_still h.tr h.ne (by grind) (by grind) hy nz
theorem clear_left{W:List Rat}{a b:Rat}(h:WOk W a b){D M j:Nat}(D0:D≠0)(hD:D<4294967296*4294967296)(hj:j≤463013)(hc:Dy D M j b)(c1: -4000≤b)(c2:b≤4000){y:Rat}(hy:y<b)(hw':b-y≤hw 1 2345000):cfn W y b=0:=by
 have w2:hw 1 2345000≤1:=qHl (show 0≤2345000 by omega)
 have nz:=fun z (h1:y≤z) (h2:z≤b)=>near_any h D0 hD hj hc c1 c2 h.nb (z:=z) (qK9 (by grind) (by grind))
 refine cfn_still h.tr h.ne (by grind) (by grind) hy fun z h1 h2=>⟨(nz z h1 h2).1,?_⟩
 have a1:=(nz z h1 h2).2
 have a2:=(nz y Rat.le_refl (Rat.le_of_lt hy)).2
 exact a2.symm.trans a1
structure Nrw (W:List Rat) (last to width:Rat) (x y:I2):Prop where
 nar:∃n,Nar (cfn W) W last to width n x y
 lo:x.1≤y.1
 hi:y.2≤x.2
 le:y.1≤y.2
 last:last<y.1
 to:y.2<to
 width:y.2-y.1≤width
 ok:okI 150000 y
 root:(y.1=y.2∧qAb W y.1=0)∨(y.1<y.2∧cfn W y.1 y.2=1)
theorem nar_ex{W:List Rat}{a b:Rat}(h:WOk W a b){D M:Nat}(D0:D≠0)(hD:D<4294967296*4294967296)(hM:M<4294967296*4294967296*4294967296)(db:Dy D M 0 b)(b1: -4000≤b)(b2:b≤4000){last:Rat}{bits:Nat}(hb:bits≤128):∀(n i j:Nat) (x:I2),i+n=2345013->j≤463013+i->Dy D M j x.1->Dy D M j x.2-> -4000≤x.1->x.2≤b->x.1<x.2->x.2-x.1≤hw 8192 i->cfn W x.1 x.2=1->(last<x.1∨(x.1=last∧∀y,last<y->y-last≤hw 1 2345000->cfn W last y=0))->∃y,Nrw W last b (hw 1 bits) x y:=by
 intro n
 have hd:=h.deep
 induction n with
 |zero=>
  intro i j x hi hj d1 d2 a1 a2 hlt hwi hC hl
  have oX:okI 150000 x:=⟨(d1.ok D0 hD hM).mono (by omega),(d2.ok D0 hD hM).mono (by omega)⟩
  have e64:hw 8192 13=1:=by decide+kernel
  have hi2:i=13+2345000:=by omega
  rw [hi2,←hw_add,e64] at hwi
  have l1:last<x.1:=by
   rcases hl with hl|⟨e,cl⟩
   ·exact hl
   ·have:=cl x.2 (by rw [←e];exact hlt) (by rw [←e];exact hwi)
    rw [←e,hC] at this
    exact absurd this (by decide)
  have l2:x.2<b:=by
   rcases Rat.le_iff_lt_or_eq.1 a2 with g|g
   ·exact g
   ·have:=clear_left h D0 hD (by omega) db b1 b2 (y:=x.1) (by rw [←g];exact hlt) (by rw [←g];exact hwi)
    rw [←g,hC] at this
    exact absurd this (by decide)
  have l3:x.2-x.1≤hw 1 bits:=Rat.le_trans hwi (qHl (by omega))
  have gd:qNv last b (hw 1 bits) x=true:=by
   unfold qNv
   rw [decide_eq_true l1,decide_eq_true l2,decide_eq_true l3];rfl
  exact ⟨x,⟨0,.stop oX (Rat.le_of_lt hlt) gd⟩,Rat.le_refl,Rat.le_refl,Rat.le_of_lt hlt,l1,l2,l3,oX,.inr ⟨hlt,hC⟩⟩
 |succ n ih=>
  intro i j x hi hj d1 d2 a1 a2 hlt hwi hC hl
  have oX:okI 150000 x:=⟨(d1.ok D0 hD hM).mono (by omega),(d2.ok D0 hD hM).mono (by omega)⟩
  cases gd:qNv last b (hw 1 bits) x with
  |true=>
   have g:=gd
   unfold qNv at g
   rw [Bool.and_eq_true,Bool.and_eq_true,decide_eq_true_eq,decide_eq_true_eq,decide_eq_true_eq] at g
   exact ⟨x,⟨0,.stop oX (Rat.le_of_lt hlt) gd⟩,Rat.le_refl,Rat.le_refl,Rat.le_of_lt hlt,g.1.1,g.1.2,g.2,oX,.inr ⟨hlt,hC⟩⟩
  |false=>
   obtain ⟨m1,m2,m3⟩:=mid_bd (Rat.le_of_lt hlt)
   obtain ⟨m4,m5⟩:=m3 hlt
   obtain ⟨w1,w2⟩:=half_w (Rat.le_of_lt hlt) hwi
   have dm:=d1.mid D0 d2
   have om:okQ 150000 (mid2 x):=(dm.ok D0 hD hM).mono (by omega)
   have ll:last≤x.1:=by
    rcases hl with hl|⟨e,_⟩
    ·exact Rat.le_of_lt hl
    ·rw [e];exact Rat.le_refl
   have bp:0<hw 1 bits:=qL2 bits
   by_cases e:qAb W (mid2 x)=0
   ·exact ⟨(mid2 x,mid2 x),⟨0,.root oX (Rat.le_of_lt hlt) gd om e⟩,m1,m2,Rat.le_refl,by show last<mid2 x;grind,by show mid2 x<b;grind,by show mid2 x-mid2 x≤_;grind,⟨om,om⟩,.inl ⟨rfl,e⟩⟩
   ·have ad:=hd.add x.1 (mid2 x) x.2 m4 m5
    have n1:=hd.nonneg x.1 (mid2 x) m4
    have n2:=hd.nonneg (mid2 x) x.2 m5
    by_cases c:cfn W x.1 (mid2 x)=1
    ·obtain ⟨y,hy⟩:=ih (i+1) (j+1) (x.1,mid2 x) (by omega) (by omega) d1.next dm a1 (Rat.le_trans m2 a2) m4 w1 c hl
     obtain ⟨k,hk⟩:=hy.nar
     exact ⟨y,⟨k+1,.left oX (Rat.le_of_lt hlt) gd om e c hk⟩,hy.lo,Rat.le_trans hy.hi m2,hy.le,hy.last,hy.to,hy.width,hy.ok,hy.root⟩
    ·obtain ⟨y,hy⟩:=ih (i+1) (j+1) (mid2 x,x.2) (by omega) (by omega) dm d2.next (Rat.le_trans a1 m1) a2 m5 w2 (by show cfn W (mid2 x) x.2=1;omega) (.inl (by show last<mid2 x;grind))
     obtain ⟨k,hk⟩:=hy.nar
     exact ⟨y,⟨k+1,.right oX (Rat.le_of_lt hlt) gd om e c hk⟩,Rat.le_trans m1 hy.lo,hy.hi,hy.le,hy.last,hy.to,hy.width,hy.ok,hy.root⟩
theorem btw_ex{W:List Rat}{a b:Rat}(h:WOk W a b){D M:Nat}(D0:D≠0)(hD:D<4294967296*4294967296)(hM:M<4294967296*4294967296*4294967296)(db:Dy D M 0 b)(b1: -4000≤b)(b2:b≤4000){bits:Nat}(hb:bits≤128):∀(l:List I2) (last:Rat),(∀x∈l,(∃j,j≤463013∧Dy D M j x.1∧Dy D M j x.2)∧x.1<x.2∧last≤x.1∧x.2≤b∧cfn W x.1 x.2=1∧ -4000≤x.1)->l.Pairwise (fun a b=>a.2≤b.1)->∃R:List I2,R.length=l.length∧∀i,i<R.length->Nrw W (qEi last R i) b (hw 1 bits) (l.getD i (0,0)) (R.getD i (0,0))
 |[],last,_,_=>⟨[],rfl,fun i hi=>absurd hi (Nat.not_lt_zero i)⟩
 |x::l,last,hl,hp=>by
  obtain ⟨⟨j,j1,d1,d2⟩,lt,la,xb,c1,m4⟩:=hl x List.mem_cons_self
  obtain ⟨hp1,hp2⟩:=List.pairwise_cons.1 hp
  have start:last<x.1∨(x.1=last∧∀y,last<y->y-last≤hw 1 2345000->cfn W last y=0):=by
   rcases Rat.le_iff_lt_or_eq.1 la with g|g
   ·exact .inl g
   ·exact .inr ⟨g.symm,fun y y1 y2=>clear_right h D0 hD j1 (by rw [g];exact d1) (by rw [g];exact m4) (by rw [g];grind) y1 y2⟩
  obtain ⟨y,hy⟩:=nar_ex h D0 hD hM db b1 b2 (last:=last) hb 2345013 0 j x rfl (by omega) d1 d2 m4 xb lt (by show x.2-x.1≤8192;grind) c1 start
  obtain ⟨R,r1,r2⟩:=btw_ex h D0 hD hM db b1 b2 hb l y.2 (fun z hz=>by
   obtain ⟨q1,q2,q3,q4,q5,q6⟩:=hl z (List.mem_cons_of_mem _ hz)
   exact ⟨q1,q2,Rat.le_trans hy.hi (hp1 z hz),q4,q5,q6⟩) hp2
  refine ⟨y::R,by simp [r1],fun i hi=>?_⟩
  cases i with
  |zero=>exact hy
  |succ i=>
   have:=r2 i (by simpa using hi)
   have e:qEi last (y::R) (i+1)=qEi y.2 R i:=by
    cases i with
    |zero=>rfl
    |succ i=>rfl
   rw [e]
   exact this
structure TkIn (N P Q:Int) (x:List Rat) (r:Rat):Prop where
 ne:x≠[]
 len:x.length≤5
 n0:0<N
 n96:N≤144
 p0:0<P
 p4:P≤140000
 q0:0<Q
 q64:Q≤144
 hv:∀v∈x,∃V:Int,V.natAbs≤140000∧v*(N:Rat)=(V:Rat)
 hr:r*(Q:Rat)=(P:Rat)
 bd:∀v∈x, -1000≤v∧v≤1000
 rb:r≤1000
theorem castP{z:Int}(h:0<z):(0:Rat)<(z:Rat):=Rat.intCast_lt_intCast.2 h
theorem ok_over{v:Rat}{N V:Int}(hN:N≠0)(e:v*(N:Rat)=(V:Rat))(h1:V.natAbs<4294967296)(h2:N.natAbs<4294967296):okQ 2 v:=by
 have:v=Rat.divInt V N:=by
  rw [Rat.divInt_eq_div,←e]
  have hq:(N:Rat)≠0:=fun k=>hN (Rat.intCast_eq_zero_iff.1 k)
  grind
 rw [this]
 exact qHa hN (ln_sm h1) (ln_sm h2)
theorem TkIn.rp{N P Q:Int}{x:List Rat}{r:Rat}(h:TkIn N P Q x r):0<r:=by
 have hq:=castP h.q0
 have hp:=castP h.p0
 rw [←h.hr] at hp
 refine Rat.not_le.1 fun k=>?_
 have:=Rat.mul_le_mul_of_nonneg_right k (Rat.le_of_lt hq)
 grind
theorem TkIn.okx{N P Q:Int}{x:List Rat}{r:Rat}(h:TkIn N P Q x r):∀v∈x,okQ 2 v:=fun v hv=>by
 obtain ⟨V,v1,v2⟩:=h.hv v hv
 have:=h.n0
 have:=h.n96
 exact ok_over (by omega) v2 (by omega) (by omega)
theorem TkIn.okr{N P Q:Int}{x:List Rat}{r:Rat}(h:TkIn N P Q x r):okQ 2 r:=by
 have:=h.q0
 have:=h.q64
 have:=h.p0
 have:=h.p4
 exact ok_over (by omega) h.hr (by omega) (by omega)
theorem TkIn.ends{N P Q:Int}{x:List Rat}{r:Rat}(h:TkIn N P Q x r):∀y∈qAc x r,okQ 2 y∧ -2000≤y∧y≤2000:=fun y hy=>by
 have a1:=h.n0
 have a2:=h.n96
 have a3:=h.p0
 have a4:=h.p4
 have a5:=h.q0
 have a6:=h.q64
 have key:∃v∈x,y=v-r∨y=v+r:=by
  have:=endsQ_mem.1 hy
  clear hy h a1 a2 a3 a4 a5 a6
  induction x with
  |nil=>exact absurd this (by simp [qDq])
  |cons v x ih=>
   simp only [qDq,List.mem_cons] at this
   rcases this with e|e|e
   ·exact ⟨v,List.mem_cons_self,.inl e⟩
   ·exact ⟨v,List.mem_cons_self,.inr e⟩
   ·obtain ⟨w,w1,w2⟩:=ih e
    exact ⟨w,List.mem_cons_of_mem _ w1,w2⟩
 obtain ⟨v,hv,e⟩:=key
 obtain ⟨V,v1,v2⟩:=h.hv v hv
 have b:=h.bd v hv
 have rb:=h.rb
 have rp:=h.rp
 have hr:=h.hr
 have m1:N*Q≤144*144:=Int.mul_le_mul a2 a6 (by omega) (by omega)
 have m0:0<N*Q:=Int.mul_pos a1 a5
 have m2:(V*Q).natAbs≤140000*144:=by rw [Int.natAbs_mul];exact Nat.mul_le_mul v1 (by omega)
 have m3:(P*N).natAbs≤140000*144:=by rw [Int.natAbs_mul];exact Nat.mul_le_mul (by omega) (by omega)
 have bound: -2000≤y∧y≤2000:=by rcases e with e|e<;>(rw [e];constructor<;>grind)
 refine ⟨?_,bound⟩
 rcases e with e|e
 ·refine ok_over (N:=N*Q) (V:=V*Q-P*N) (by omega) ?_ (by omega) (by omega)
  rw [e,Rat.intCast_mul,Rat.intCast_sub,Rat.intCast_mul,Rat.intCast_mul,←v2,←hr]
  grind
 ·refine ok_over (N:=N*Q) (V:=V*Q+P*N) (by omega) ?_ (by omega) (by omega)
  rw [e,Rat.intCast_mul,Rat.intCast_add,Rat.intCast_mul,Rat.intCast_mul,←v2,←hr]
  grind
theorem TkIn.piece{N P Q:Int}{x:List Rat}{r:Rat}(h:TkIn N P Q x r)(j:Nat):HtP 5 (qAj x r j):=by
 have a1:=h.n0
 have a2:=h.n96
 have a3:=h.p0
 have a4:=h.p4
 have a5:=h.q0
 have a6:=h.q64
 have hr:=h.hr
 have rp:=h.rp
 have hs:1/(r*r)*((P*P:Int):Rat)=((Q*Q:Int):Rat):=by
  rw [Rat.intCast_mul,Rat.intCast_mul,←hr]
  have:r*r≠0:=by have:=Rat.mul_pos rp rp;grind
  have e:=qAm (a:=1) (b:=r*r) this
  generalize 1/(r*r)=s at *
  grind
 obtain ⟨q,q1,q2⟩:=sum_Z (N:=N) (A:=140000) (by omega) (by omega) hs (l:=actF x r (mid2 ((qAc x r).getD j 0,(qAc x r).getD (j+1) 0))) fun v hv=>h.hv v (act_mem hv)
 have al:(actF x r (mid2 ((qAc x r).getD j 0,(qAc x r).getD (j+1) 0))).length≤5:=Nat.le_trans (act_len x r _) h.len
 have n1:(N*P).natAbs≤144*140000:=by rw [Int.natAbs_mul];exact Nat.mul_le_mul (by omega) (by omega)
 have n2:((N*P)*(N*P)).natAbs≤144*140000*(144*140000):=by rw [Int.natAbs_mul];exact Nat.mul_le_mul n1 n1
 have n3:(Q*Q).natAbs≤144*144:=by rw [Int.natAbs_mul];exact Nat.mul_le_mul (by omega) (by omega)
 have n4:140000+N.natAbs≤140144:=by omega
 have n5:((N*P)*(N*P)).natAbs+(Q*Q).natAbs*((140000+N.natAbs)*(140000+N.natAbs))≤813687705501696:=by
  have:=Nat.mul_le_mul n3 (Nat.mul_le_mul n4 n4)
  omega
 have n6:(N*((N*P)*(N*P))*((N*P)*(N*P))).natAbs≤144*(144*140000*(144*140000))*(144*140000*(144*140000)):=by
  rw [Int.natAbs_mul,Int.natAbs_mul]
  exact Nat.mul_le_mul (Nat.mul_le_mul (by omega) n2) n2
 have n7:=Nat.mul_le_mul al (Nat.mul_le_mul (Nat.mul_le_mul n4 n5) n5)
 have np:N*((N*P)*(N*P))*((N*P)*(N*P))≠0:=by
  have e1:N*P≠0:=Int.mul_ne_zero (by omega) (by omega)
  exact Int.mul_ne_zero (Int.mul_ne_zero (by omega) (Int.mul_ne_zero e1 e1)) (Int.mul_ne_zero e1 e1)
 refine ht_of_Z (h:=4) np (Nat.lt_of_le_of_lt n6 (by decide+kernel)) (Nat.lt_of_le_of_lt (Nat.le_trans q1 n7) (by decide+kernel)) fun t=>?_
 unfold qAj
 rw [ev_eqP]
 exact q2 t
def wP2(x:List Rat)(r:Rat)(j:Nat):List Rat:=woP 6 (woP 6 (qAj x r j) ((qAc x r).getD j 0)) ((qAc x r).getD (j+1) 0)
theorem TkIn.wok{N P Q:Int}{x:List Rat}{r:Rat}(h:TkIn N P Q x r){j:Nat}(hj:j+1<(qAc x r).length)(hp:qAj x r j≠[]):WOk (wP2 x r j) ((qAc x r).getD j 0) ((qAc x r).getD (j+1) 0):=by
 have ga:(qAc x r).getD j 0∈qAc x r:=by rw [List.getD_eq_getElem?_getD,List.getElem?_eq_getElem (by omega)];exact List.getElem_mem _
 have gb:(qAc x r).getD (j+1) 0∈qAc x r:=by rw [List.getD_eq_getElem?_getD,List.getElem?_eq_getElem hj];exact List.getElem_mem _
 have oa:=(h.ends _ ga).1
 have ob:=(h.ends _ gb).1
 have lp:(qAj x r j).length≤6:=qHn _ _
 have tp:Tr (qAj x r j):=qLu _ _
 have l6:(qAj x r j).length=6:=by
  refine (eqP_ne (fun e=>hp ?_) ?_).1
  ·unfold qAj;rw [e];rfl
  ·have rp:=h.rp
   have:r*r≠0:=by have:=Rat.mul_pos rp rp;grind
   intro k
   have:=qAm (a:=1) (b:=r*r) this
   rw [k,Rat.zero_mul] at this
   exact absurd this (by decide)
 obtain ⟨s1,s2,s3,s4,_⟩:=qFd 6 (s:=(qAc x r).getD j 0) tp hp lp
 obtain ⟨t1,t2,t3,t4,k,t5⟩:=qFd 6 (s:=(qAc x r).getD (j+1) 0) s1 s2 (by omega)
 refine ⟨t1,t2,by show (woP 6 _ _).length≤6;omega,wo_cap ob 6 s1 s2 (by omega) (wo_cap oa 6 tp hp lp (by rw [l6];exact h.piece j)),fun e=>s3 ?_,t3⟩
 rw [t5,show qAb (woP 6 (woP 6 (qAj x r j) ((qAc x r).getD j 0)) ((qAc x r).getD (j+1) 0)) ((qAc x r).getD j 0)=0 from e,Rat.mul_zero]
theorem cfn_few{W:List Rat}{a b:Rat}(h:WOk W a b)(x y:Rat):cfn W x y≤7:=by
 obtain ⟨q1,q2,q3⟩:=quo_ht h
 unfold cfn cntF
 rw [qAr h.tr]
 have hl:=qHr qAz ((ctrQ W).length+1) (ctrQ W) (derP (ctrQ W))
 have b1:=qK6 ((ctr W).map fun f=>sgQ (qAb f x)) 0
 have b2:=qK6 ((ctr W).map fun f=>sgQ (qAb f y)) 0
 rw [List.length_map] at b1 b2
 have hl2:(ctr W).length≤7:=by unfold ctr;omega
 split
 ·unfold vrsF;omega
 ·decide
structure PcR (x:List Rat) (r:Rat) (bits:Nat) (j:Nat) (R:List I2):Prop where
 len:(R.length:Int)=cfn (wP2 x r j) ((qAc x r).getD j 0) ((qAc x r).getD (j+1) 0)
 in_:∃l:List I2,l.length=R.length∧Iso (cfn (wP2 x r j)) ((qAc x r).getD j 0,(qAc x r).getD (j+1) 0) l∧∀i,i<R.length->Nrw (wP2 x r j) (qEi ((qAc x r).getD j 0) R i) ((qAc x r).getD (j+1) 0) (hw 1 bits) (l.getD i (0,0)) (R.getD i (0,0))
theorem asc_lt{q:List Rat}(h:q.Pairwise (·< ·)){j:Nat}(hj:j+1<q.length):q.getD j 0<q.getD (j+1) 0:=by
 rw [List.getD_eq_getElem?_getD,List.getElem?_eq_getElem (by omega),List.getD_eq_getElem?_getD,List.getElem?_eq_getElem hj]
 exact List.pairwise_iff_getElem.1 h j (j+1) (by omega) hj (by omega)
theorem TkIn.exists_{N P Q:Int}{x:List Rat}{r:Rat}(h:TkIn N P Q x r){bits:Nat}(hb:bits≤128){j:Nat}(hj:j+1<(qAc x r).length)(hp:qAj x r j≠[]):∃R:List I2,PcR x r bits j R∧R.length≤10∧Ret Tryz.prog 56 [qsD (qAj x r j),qD ((qAc x r).getD j 0),qD ((qAc x r).getD (j+1) 0),qD (hw 1 bits)] (·=isD R):=by
 have hk:=h.wok hj hp
 have ga:(qAc x r).getD j 0∈qAc x r:=by rw [List.getD_eq_getElem?_getD,List.getElem?_eq_getElem (by omega)];exact List.getElem_mem _
 have gb:(qAc x r).getD (j+1) 0∈qAc x r:=by rw [List.getD_eq_getElem?_getD,List.getElem?_eq_getElem hj];exact List.getElem_mem _
 obtain ⟨oa,a1,a2⟩:=h.ends _ ga
 obtain ⟨ob,b1,b2⟩:=h.ends _ gb
 have hab:=asc_lt (qBx x r).1 hj
 have hpie:=h.piece j
 have lp:(qAj x r j).length≤6:=qHn _ _
 have tp:Tr (qAj x r j):=qLu _ _
 obtain ⟨s1,s2,s3,s4,_⟩:=qFd 6 (s:=(qAc x r).getD j 0) tp hp lp
 obtain ⟨W,hW⟩:∃W,wP2 x r j=W:=⟨_,rfl⟩
 have eW:W=woP 6 (woP 6 (qAj x r j) ((qAc x r).getD j 0)) ((qAc x r).getD (j+1) 0):=hW.symm
 have tW:=hk.tr
 have W0:=hk.ne
 rw [hW] at hk tW W0
 have hd:=hk.deep
 obtain ⟨D,M,D0,hD,hM,d1,d2⟩:=Dy.start oa ob
 obtain ⟨l,i1,i2,i3⟩:=isolate_B hk.pol (by rw [qAr tW];exact W0) (by decide) hd D0 hD hM (13+463000) 0 ((qAc x r).getD j 0,(qAc x r).getD (j+1) 0) (by omega) d1 d2 (by show-4096≤(qAc x r).getD j 0;grind) (by show (qAc x r).getD (j+1) 0≤4096;grind) (Rat.le_of_lt hab) (by show (qAc x r).getD (j+1) 0-(qAc x r).getD j 0≤8192;grind)
 obtain ⟨p1,p2⟩:=i1.parts hd.toCnt
 have ln:=i1.len hd.toCnt
 have few:=cfn_few hk ((qAc x r).getD j 0) ((qAc x r).getD (j+1) 0)
 obtain ⟨R,r1,r2⟩:=btw_ex hk D0 hD hM d2 (by grind) (by grind) hb l ((qAc x r).getD j 0) (fun y hy=>by
  obtain ⟨k,k1,k2,k3⟩:=i2 y hy
  obtain ⟨y1,y2,y3,y4⟩:=p1 y hy
  exact ⟨⟨k,by omega,k2,k3⟩,y2,y1,y3,y4,by have:(qAc x r).getD j 0≤y.1:=y1;grind⟩) p2
 have ln2:(l.length:Int)≤7:=by rw [ln];exact few
 refine ⟨R,⟨?_,l,r1.symm,by rw [hW];exact i1,by rw [hW];exact r2⟩,by omega,?_⟩
 ·rw [r1,ln,hW]
 ·have hpol:=hk.pol
  refine qL0 _ _ _ tp hp lp hpie (by decide) (oa.mono (by decide)) (ob.mono (by decide)) ((hw_ok okQ_one bits).mono (by omega)) (Rat.le_of_lt hab) eW hpol (by rw [qAr tW];exact W0) ?_ (l:=l) (by omega) i3 ⟨r1,fun i hi=>?_,fun i hi=>(r2 i hi).nar⟩
  ·have l6:HtP (capf (qAj x r j).length) (qAj x r j):=hpie.mono (qMs _).1
   exact (wo_cap oa 6 tp hp lp l6).mono (by have:=(qMs (woP 6 (qAj x r j) ((qAc x r).getD j 0)).length).2;omega)
  ·cases i with
   |zero=>exact oa.mono (by decide)
   |succ i=>exact (r2 i (by omega)).ok.2
theorem chkErr_in{N P Q:Int}{x:List Rat}{r:Rat}(h:TkIn N P Q x r):qUz x r=0:=by
 have l0:=List.length_pos_iff.2 h.ne
 have l5:=h.len
 have rp:=h.rp
 unfold qUz
 rw [if_neg (by omega),if_neg (by omega),if_neg (Rat.not_le.2 rp)]
theorem tukey_gen{N P Q:Int}{x:List Rat}{r:Rat}(h:TkIn N P Q x r){bits:Nat}(hb:bits≤128):∃Rs:Nat->List I2,(∀j,j+1<(qAc x r).length->qAj x r j≠[]->PcR x r bits j (Rs j)∧(Rs j).length≤10)∧Ret Tryz.prog 18 [qsD x,qD r,.int .i64 bits] (·= .tup [.agg [isD (qDv x r Rs ((qAc x r).length-1)),isD (qCi x r)],.int .i64 0]):=by
 have key:∀j,∃R:List I2,j+1<(qAc x r).length->qAj x r j≠[]->PcR x r bits j R∧R.length≤10∧Ret Tryz.prog 56 [qsD (qAj x r j),qD ((qAc x r).getD j 0),qD ((qAc x r).getD (j+1) 0),qD (hw 1 bits)] (·=isD R):=fun j=>by
  by_cases h1:j+1<(qAc x r).length
  ·by_cases h2:qAj x r j=[]
   ·exact ⟨[],fun _ k=>absurd h2 k⟩
   ·obtain ⟨R,q1,q2,q3⟩:=h.exists_ hb h1 h2
    exact ⟨R,fun _ _=>⟨q1,q2,q3⟩⟩
  ·exact ⟨[],fun k=>absurd k h1⟩
 refine ⟨fun j=>Classical.choose (key j),fun j h1 h2=>⟨(Classical.choose_spec (key j) h1 h2).1,(Classical.choose_spec (key j) h1 h2).2.1⟩,?_⟩
 refine qL1 x r bits (by have:=h.len;omega) (fun v hv=>(h.okx v hv).mono (by decide)) (h.okr.mono (by decide)) h.rp (chkErr_in h) hb _ fun j h1 h2=>?_
 obtain ⟨q1,q2,q3⟩:=Classical.choose_spec (key j) h1 h2
 have gb:(qAc x r).getD (j+1) 0∈qAc x r:=by rw [List.getD_eq_getElem?_getD,List.getElem?_eq_getElem h1];exact List.getElem_mem _
 have lp:(qAj x r j).length≤6:=qHn _ _
 have tp:Tr (qAj x r j):=qLu _ _
 have hpol:=qRh tp h2 lp ((h.piece j).mono (qMs _).1)
 have ob:=(h.ends _ gb).1
 have ev:=qC0 hpol ((qAc x r).getD (j+1) 0) (ob.mono (by decide))
 have oe:=evalV_ok hpol ((qAc x r).getD (j+1) 0) (ob.mono (by decide))
 refine ⟨q2,q3,ev,?_⟩
 have hh:=qMl hpol.ok ob (by decide) (qAj x r j).length (Nat.le_refl _)
 rw [qJp] at hh
 refine hh.mono ?_
 have:=Nat.mul_le_mul_right (100+2) lp
 omega
def radQ(v:Int):Rat:=absQ (numQ v)+Rat.divInt 1 2
theorem law22_radius(v:Int)(h1: -9223372036854775808≤v)(h2:v<9223372036854775808):Ret Tryz.prog 16 [.int .i64 v] (·=qD (radQ v)):=by
 have n1:=qRv v h1 h2
 have o1:=numQ2 v
 have oh:okQ 2 (Rat.divInt 1 2):=qGt (by decide+kernel)
 have a1:=qT0 (numQ v) (o1.mono (by decide))
 have oa:=absQ_ok o1
 have f1:=qKi 1 2 (by decide) (by decide) (by decide) (by decide)
 have a2:=qLh (absQ (numQ v)) (Rat.divInt 1 2) (oa.mono (by decide)) (oh.mono (by decide))
 unfold radQ
 clear o1 oh oa
 generalize absQ (numQ v)+Rat.divInt 1 2=r at *
 generalize absQ (numQ v)=b at *
 generalize numQ v=a at *
 generalize Rat.divInt 1 2=h at *
 refine qAa tab Tryz.func16 rfl rfl (lblz rfl) (fun w0 F0=>?_)
 repeat' (first|refine wG ?_|refine wC n1 ?_|refine wC a1 ?_|refine wC f1 ?_|refine wC a2 ?_|refine wS ?_ ?_<;>intro _|refine finG ?_)
 rfl
theorem ref05_SubH(p q:List Rat)(hp:p.length≤400)(hq:q.length≤400)(kp:∀x∈p,okQ 1000000 x)(kq:∀x∈q,okQ 1000000 x):Ret Tryz.prog 165 [qsD p,qsD q] (·=qsD (qAd (subC p q))):=by
 have h:=ref05_Sub (p.map rq) (q.map rq) (by rw [List.length_map];omega) (by rw [List.length_map];omega) (qBq fun x hx=>(kp x hx).mono (by decide)) (qBq fun x hx=>(kq x hx).mono (by decide))
 rw [qAf,qAf] at h
 exact h.args (qCw p (qCw q (LeT.refl _)))
theorem ref05_AddH(p q:List Rat)(hp:p.length≤400)(hq:q.length≤400)(kp:∀x∈p,okQ 1000000 x)(kq:∀x∈q,okQ 1000000 x):Ret Tryz.prog 166 [qsD p,qsD q] (·=qsD (qAd (addC p q))):=by
 have h:=qM6 (p.map rq) (q.map rq) (by rw [List.length_map];omega) (by rw [List.length_map];omega) (qBq fun x hx=>(kp x hx).mono (by decide)) (qBq fun x hx=>(kq x hx).mono (by decide))
 rw [qAf,qAf] at h
 exact h.args (qCw p (qCw q (LeT.refl _)))
theorem qLf(p q:List Rat){h:Nat}(hp:p.length≤100)(hq:q.length≤100)(kp:HtP h p)(kq:HtP h q)(h1:1<h)(hb:h*(2*q.length+3)≤4000000):Ret Tryz.prog 164 [qsD p,qsD q] (·=qsD (mulT p q)):=ref05_MulQ p q h hp hq kp.okL kq.okL h1 hb
theorem req_step{l A:List Rat}{v sq:Rat}(hv:okQ 100 v)(hs:okQ 300 sq)(eA:A=eqP l sq)(lA:A.length≤6)(oA:∀y∈A,okQ 1000000 y):∃U SU W WW RW,Ret Tryz.prog 164 [qsD [v,((-1:Int):Rat)],qsD [v,((-1:Int):Rat)]] (·=qsD U)∧Ret Tryz.prog 164 [qsD U,qsD [sq]] (·=qsD SU)∧Ret Tryz.prog 165 [qsD [((1:Int):Rat)],qsD SU] (·=qsD W)∧Ret Tryz.prog 164 [qsD W,qsD W] (·=qsD WW)∧Ret Tryz.prog 164 [qsD [v,((-1:Int):Rat)],qsD WW] (·=qsD RW)∧Ret Tryz.prog 166 [qsD A,qsD RW] (·=qsD (eqP (l++[v]) sq)):=by
 have e1:((-1:Int):Rat)= -1:=rfl
 have e2:((1:Int):Rat)=1:=rfl
 rw [e1,e2]
 have hR:=qUn (k:=100) (by decide) hv
 have eR:∀x,qAb [v, -1] x=v-x:=fun x=>ev_res v x
 have lR:([v, -1]:List Rat).length=2:=rfl
 generalize ([v, -1]:List Rat)=R at *
 have h1:HtP 2 [(1:Rat)]:=ht_c1
 have hS:HtP 303 [sq]:=(ht_c hs).mono (by decide)
 have hU:=(hR.mul hR).trim
 have lU:(mulT R R).length≤4:=by
  have:=qG0 R R
  have:=qAu (mulC R R)
  unfold mulT;omega
 have m1:=qLf R R (h:=100) (by omega) (by omega) hR hR (by decide) (by omega)
 have hU:HtP 303 (mulT R R):=hU.mono (by omega)
 have m2:=qLf (mulT R R) [sq] (h:=303) (by omega) (Nat.le_add_left 1 99) hU hS (by decide) (show 303*(2*1+3)≤4000000 by decide)
 have hSU:HtP 700 (mulT (mulT R R) [sq]):=(hU.mul hS).trim.mono (by have:([sq]:List Rat).length=1:=rfl;omega)
 have lSU:(mulT (mulT R R) [sq]).length≤5:=by
  have:=qG0 (mulT R R) [sq]
  have:=qAu (mulC (mulT R R) [sq])
  simp only [List.length_cons,List.length_nil] at *
  unfold mulT at *;omega
 have s1:=ref05_SubH [1] (mulT (mulT R R) [sq]) (by decide) (by omega) (fun y hy=>(h1.okL y hy).mono (by decide)) (fun y hy=>(hSU.okL y hy).mono (by decide))
 have hW:HtP 800 (qAd (subC [1] (mulT (mulT R R) [sq]))):=(h1.sub hSU).trim.mono (by have:([(1:Rat)]:List Rat).length=1:=rfl;omega)
 have lW:(qAd (subC [1] (mulT (mulT R R) [sq]))).length≤5:=by
  have:=qAu (subC [1] (mulT (mulT R R) [sq]))
  rw [subC_len] at this
  simp only [List.length_cons,List.length_nil] at this
  omega
 have eW:∀x,qAb (qAd (subC [1] (mulT (mulT R R) [sq]))) x=1-sq*((v-x)*(v-x)):=fun x=>by
  rw [qAp,qEj]
  unfold mulT
  rw [qAp,qAg,qAp,qAg,eR,qJ8]
  have:qAb [sq] x=sq:=by simp only [qAb];grind
  rw [this]
  grind
 generalize qAd (subC [1] (mulT (mulT R R) [sq]))=W at *
 have m3:=qLf W W (h:=800) (by omega) (by omega) hW hW (by decide) (by omega)
 have hWW:HtP 2000 (mulT W W):=(hW.mul hW).trim.mono (by omega)
 have lWW:(mulT W W).length≤10:=by
  have:=qG0 W W
  have:=qAu (mulC W W)
  unfold mulT;omega
 have m4:=qLf R (mulT W W) (h:=2000) (by omega) (by omega) (hR.mono (by decide)) hWW (by decide) (by omega)
 have hRW:HtP 4000 (mulT R (mulT W W)):=((hR.mul hWW).trim).mono (by omega)
 have lRW:(mulT R (mulT W W)).length≤20:=by
  have:=qG0 R (mulT W W)
  have:=qAu (mulC R (mulT W W))
  unfold mulT at *;omega
 have a1:=ref05_AddH A (mulT R (mulT W W)) (by omega) (by omega) oA (fun y hy=>(hRW.okL y hy).mono (by decide))
 have eE:qAd (addC A (mulT R (mulT W W)))=eqP (l++[v]) sq:=eqP_of (qAl _) fun t=>by
  rw [qAp,qBh,eA,ev_eqP,qM1]
  unfold mulT
  rw [qAp,qAg,qAp,qAg,eW,eR]
  rfl
 rw [eE] at a1
 exact ⟨_,_,W,_,_,m1,m2,s1,m3,m4,a1⟩
theorem qPw(x:List Rat)(r:Rat)(hl:x.length≤6)(hx:∀v∈x,okQ 100 v)(or:okQ 100 r)(r0:r≠0):Ret Tryz.prog 118 [qsD x,qD r] (·=qsD (eqP x (1/(r*r)))):=by
 have og:∀i,okQ 100 (x.getD i 0):=fun i=>qCv hx (by decide) i
 have orr:okQ 200 (r*r):=or.mul or
 have rr0:r*r≠0:=fun e=>by rcases Rat.mul_eq_zero.1 e with h|h<;>exact r0 h
 have osq:okQ 203 (1/(r*r)):=((okQ_one.mono (show _≤3 by decide)).div orr rr0).mono (by decide)
 have f1:=qBc 1 (by decide) (by decide)
 have fm:=qBc (-1) (by decide) (by decide)
 have m0:=qG6 r r (or.mono (by decide)) (or.mono (by decide))
 have d0:=qG5 ((1:Int):Rat) (r*r) ((qF6 (by decide)).mono (by decide)) (orr.mono (by decide)) rr0
 rw [show ((1:Int):Rat)/(r*r)=1/(r*r) from rfl] at d0
 generalize hsq:1/(r*r)=sq at *
 obtain ⟨A,hA⟩:∃A:Nat->List Rat,∀i,A i=eqP (x.take i) sq:=⟨fun i=>eqP (x.take i) sq,fun _=>rfl⟩
 have a0:A 0=[]:=by rw [hA];rfl
 have lA:∀i,(A i).length≤6:=fun i=>by rw [hA];exact qHn _ _
 have oA:∀i,∀y∈A i,okQ 1000000 y:=fun i y hy=>by
  rw [hA] at hy
  have h:=(ht_eqP (k:=100) (by decide) osq (l:=x.take i) (fun v hv=>hx v (List.mem_of_mem_take hv))).trim
  refine (h.okL y hy).mono ?_
  have:=Nat.mul_le_mul_right (20+5*100+2*203) (show (x.take i).length≤64 by rw [List.length_take];omega)
  omega
 have sA:∀i,i<x.length->A (i+1)=eqP (x.take i++[x.getD i 0]) sq:=fun i hi=>by
  rw [hA,show x.take (i+1)=x.take i++[x.getD i 0] by rw [List.take_add_one,List.getD_eq_getElem?_getD,List.getElem?_eq_getElem hi];rfl]
 rw [show eqP x sq=A x.length by rw [hA,List.take_of_length_le (Nat.le_refl _)]]
 clear hx
 refine qAa tab Tryz.func118 rfl rfl (lblz rfl) (fun w0 F0=>?_)
 repeat' (first|refine wG ?_|refine wC m0 ?_|refine rg 8 8 ?_|refine wS ?_ ?_<;>intro _|refine finG ?_)
 refine qJx 5 3 qC 0 rfl ?_
 refine qAi (fun (i:Nat)=>([(0,.d (qsD x)),(3,.ptr 3 0),(5,.d (qsD (A i))),(6,.ptr 6 0),(7,.d (.int .i64 i))],[(3,.box 27 ((rC (rq r)).map V.d)),(6,.box 27 ((rC (rq (r*r))).map V.d))])) (fun i=>i≤x.length) (fun i=>x.length-i) 0 (by omega) ⟨rfl,rfl,(by rw [a0];rfl),rfl,rfl,rfl⟩ ⟨rfl,rfl,trivial⟩ (fun i hi=>?_)
 by_cases h3:i<x.length
 ·have st:=sA i h3
  have tk:=qMe (x.getD i 0) ((og i).mono (by decide))
  obtain ⟨U,SU,W,WW,RW,m1,m2,s1,m3,m4,a1⟩:=req_step (og i) (osq.mono (by decide)) (hA i) (lA i) (oA i)
  rw [←st] at a1
  clear oA lA sA og hA
  repeat' (first|refine wG ?_|refine wC tk ?_|refine wC f1 ?_|refine wC fm ?_|refine wC d0 ?_|refine wC m1 ?_|refine wC m2 ?_|refine wC s1 ?_|refine wC m3 ?_|refine wC m4 ?_|refine wC a1 ?_|refine rg 8 8 ?_|refine wS ?_ ?_<;>intro _|refine finG ?_)
  exact ⟨i+1,by omega,by omega,⟨rfl,rfl,rfl,rfl,iv (by omega),rfl⟩,rfl,rfl,trivial⟩
 ·have e:i=x.length:=by omega
  subst e
  clear oA lA sA og
  repeat' (first|refine wG ?_|refine rg 8 8 ?_|refine wS ?_ ?_<;>intro _|refine finG ?_)
  rfl
theorem qHz(x:List Rat)(r t:Rat)(hl:x.length≤200)(hx:∀v∈x,okQ 1000 v)(or:okQ 1000 r)(ot:okQ 1000 t):Ret Tryz.prog 113 [qsD x,qD r,qD t] (·=qsD (actF x r t)):=by
 have og:∀i,okQ 1000 (x.getD i 0):=fun i=>qCv hx (by decide) i
 obtain ⟨L,hL⟩:∃L:Nat->List Rat,∀i,L i=actF (x.take i) r t:=⟨fun i=>actF (x.take i) r t,fun _=>rfl⟩
 have l0:L 0=[]:=by rw [hL];rfl
 have lS:∀i,i<x.length->L (i+1)=L i++(if absQ (x.getD i 0-t)<r then [x.getD i 0] else []):=fun i hi=>by
  rw [hL,hL,show x.take (i+1)=x.take i++[x.getD i 0] by rw [List.take_add_one,List.getD_eq_getElem?_getD,List.getElem?_eq_getElem hi];rfl,qSs]
 have lL:∀i,(L i).length≤200:=fun i=>by
  rw [hL]
  have:=act_len (x.take i) r t
  rw [List.length_take] at this
  omega
 have lE:L x.length=actF x r t:=by rw [hL,List.take_of_length_le (Nat.le_refl _)]
 rw [←lE]
 clear hL lE hx
 refine qAa tab Tryz.func113 rfl rfl (lblz rfl) (fun w0 F0=>?_)
 repeat' (first|refine wG ?_|refine rg 5 8 ?_|refine wS ?_ ?_<;>intro _|refine finG ?_)
 refine qB3 7 500 27 3 qC 0 rfl ?_
 refine qAi (fun (i:Nat)=>([(0,.d (qsD x)),(4,.ptr 4 0),(5,.ptr 5 0),(7,qO (L i).length),(8,.d (.int .i64 i))],[(4,.box 27 ((rC (rq r)).map V.d)),(5,.box 27 ((rC (rq t)).map V.d)),(500,qB (L i))])) (fun i=>i≤x.length) (fun i=>x.length-i) 0 (by omega) ⟨rfl,rfl,rfl,qEn (by rw [l0];rfl),rfl,rfl⟩ ⟨rfl,rfl,qBr (by rw [l0]),trivial⟩ (fun i hi=>?_)
 have hel:=lL i
 by_cases h3:i<x.length
 ·have st:=lS i h3
  have s1:=qIv (x.getD i 0) t ((og i).mono (by decide)) (ot.mono (by decide))
  have od:okQ 2000 (x.getD i 0-t):=((og i).sub ot).mono (by decide)
  have a1:=qT0 (x.getD i 0-t) (od.mono (by decide))
  have c1:=qEa (absQ (x.getD i 0-t)) r ((absQ_ok od).mono (by decide)) (or.mono (by decide))
  generalize absQ (x.getD i 0-t)=b at *
  generalize x.getD i 0-t=d at *
  by_cases c:b<r
  ·rw [if_pos c] at st
   rw [decide_eq_true c] at c1
   clear lS lL l0 od
   repeat' (first|refine wG ?_|refine wC s1 ?_|refine wC a1 ?_|refine wC c1 ?_|refine rg 5 8 ?_|refine wS ?_ ?_<;>intro _|refine finG ?_)
   exact ⟨i+1,by omega,by omega,⟨rfl,rfl,rfl,qEn (by rw [st]),iv (by omega),rfl⟩,rfl,rfl,qBr (by rw [st]),trivial⟩
  ·rw [if_neg c,List.append_nil] at st
   rw [decide_eq_false c] at c1
   clear lS lL l0 od
   repeat' (first|refine wG ?_|refine wC s1 ?_|refine wC a1 ?_|refine wC c1 ?_|refine rg 5 8 ?_|refine wS ?_ ?_<;>intro _|refine finG ?_)
   exact ⟨i+1,by omega,by omega,⟨rfl,rfl,rfl,qEn (by rw [st]),iv (by omega),rfl⟩,rfl,rfl,qBr (by rw [st]),trivial⟩
 ·have e:i=x.length:=by omega
  subst e
  clear lS lL l0 og
  repeat' (first|refine wG ?_|refine rg 5 8 ?_|refine wS ?_ ?_<;>intro _|refine finG ?_)
  all_goals rfl
theorem absQ_sq{d r:Rat}(hr:0<r):absQ d<r↔d*d/(r*r)<1:=by
 have rr:=Rat.mul_pos hr hr
 have e:=qAm (a:=d*d) (b:=r*r) (Rat.ne_of_gt rr)
 generalize d*d/(r*r)=u at *
 rw [absQ_lt]
 constructor
 ·rintro ⟨h1,h2⟩
  have p:=Rat.mul_pos (show 0<r-d by grind) (show 0<r+d by grind)
  refine Rat.not_le.1 fun k=>?_
  have:=Rat.mul_le_mul_of_nonneg_right k (Rat.le_of_lt rr)
  grind
 ·intro h
  have k:=Rat.mul_lt_mul_of_pos_right h rr
  refine ⟨Rat.not_le.1 fun c=>?_,Rat.not_le.1 fun c=>?_⟩
  ·have:=Rat.mul_nonneg (show 0≤ -d-r by grind) (show 0≤ -d+r by grind)
   grind
  ·have:=Rat.mul_nonneg (show 0≤d-r by grind) (show 0≤d+r by grind)
   grind
theorem ref22_psi(d r:Rat)(od:okQ 2000 d)(or:okQ 1000 r)(hr:0<r):Ret Tryz.prog 167 [qD d,qD r] (·=qD (if absQ d<r then psiV d (1/(r*r)) else 0))∧okQ 60000 (if absQ d<r then psiV d (1/(r*r)) else 0):=by
 have rr0:r*r≠0:=Rat.ne_of_gt (Rat.mul_pos hr hr)
 have odd:okQ 4000 (d*d):=od.mul od
 have orr:okQ 2000 (r*r):=or.mul or
 have ou:okQ 6000 (d*d/(r*r)):=(odd.div orr rr0).mono (by decide)
 have f1:=qBc 1 (by decide) (by decide)
 have o1:okQ 10 ((1:Int):Rat):=qF6 (by decide)
 have m1:=qG6 d d (od.mono (by decide)) (od.mono (by decide))
 have m2:=qG6 r r (or.mono (by decide)) (or.mono (by decide))
 have q1:=qG5 (d*d) (r*r) (odd.mono (by decide)) (orr.mono (by decide)) rr0
 have hs:=absQ_sq (d:=d) hr
 have eu:d*d/(r*r)=1/(r*r)*(d*d):=by
  have e1:=qAm (a:=d*d) (b:=r*r) rr0
  have e2:=qAm (a:=1) (b:=r*r) rr0
  generalize d*d/(r*r)=u at *
  generalize 1/(r*r)=s at *
  have:(u-s*(d*d))*(r*r)=0:=by grind
  rcases Rat.mul_eq_zero.1 this with h|h
  ·grind
  ·exact absurd h rr0
 have ep:psiV d (1/(r*r))=d*((((1:Int):Rat)-d*d/(r*r))*(((1:Int):Rat)-d*d/(r*r))):=by
  unfold psiV
  rw [←eu];rfl
 rw [ep]
 generalize d*d/(r*r)=u at *
 have l1:=qEa u ((1:Int):Rat) (ou.mono (by decide)) (o1.mono (by decide))
 have s1:=qIv ((1:Int):Rat) u (o1.mono (by decide)) (ou.mono (by decide))
 have ov:okQ 7000 (((1:Int):Rat)-u):=(o1.sub ou).mono (by decide)
 generalize ((1:Int):Rat)-u=w at *
 have m3:=qG6 w w (ov.mono (by decide)) (ov.mono (by decide))
 have oww:okQ 14000 (w*w):=ov.mul ov
 have m4:=qG6 d (w*w) (od.mono (by decide)) (oww.mono (by decide))
 have op:okQ 60000 (d*(w*w)):=(od.mul oww).mono (by decide)
 have e1:((1:Int):Rat)=1:=rfl
 by_cases c:absQ d<r
 ·rw [if_pos c]
  refine ⟨?_,op⟩
  rw [decide_eq_true (by rw [e1];exact hs.1 c)] at l1
  clear od or odd orr ou o1 ov oww op hs
  generalize d*(w*w)=p at *
  generalize w*w=ww at *
  generalize d*d=dd at *
  refine qAa tab Tryz.func167 rfl rfl (lblz rfl) (fun w0 F0=>?_)
  repeat' (first|refine wG ?_|refine wC m1 ?_|refine wC m2 ?_|refine wC q1 ?_|refine wC f1 ?_|refine wC l1 ?_|refine wC s1 ?_|refine wC m3 ?_|refine wC m4 ?_|refine rgK 1 8 [5] ?_|refine rg 2 2 ?_|refine rgK 4 4 [6] ?_|refine rg 5 4 ?_|refine wS ?_ ?_<;>intro _|refine finG ?_)
  all_goals rfl
 ·rw [if_neg c]
  refine ⟨?_,qB9 (by decide)⟩
  rw [decide_eq_false (by rw [e1];exact fun k=>c (hs.2 k))] at l1
  clear od or odd orr ou o1 ov oww op hs
  generalize d*d=dd at *
  have e0:qD 0=rD r0:=by show rD (rq 0)=_;rw [qM2]
  rw [e0]
  refine qAa tab Tryz.func167 rfl rfl (lblz rfl) (fun w0 F0=>?_)
  repeat' (first|refine wG ?_|refine wC m1 ?_|refine wC m2 ?_|refine wC q1 ?_|refine wC f1 ?_|refine wC l1 ?_|refine rgK 1 8 [5] ?_|refine rg 2 2 ?_|refine rgK 4 4 [6] ?_|refine rg 5 4 ?_|refine wS ?_ ?_<;>intro _|(show qA5 _ _ _ _ _;first|refine finF true rfl rfl sc ?_|refine finF false rfl rfl sc ?_|refine finC false rfl rfl sc sc ?_|refine finN rfl rfl sc ?_|refine finL true rfl rfl sc rfl (LeR.cons rfl leL LeR.nil) ?_|refine finA true rfl rfl sc ?_|refine finA false rfl rfl sc ?_|refine finE true rfl rfl sc ?_|refine finE false rfl rfl sc ?_))
  all_goals exact leL
theorem ref22_sum(x:List Rat)(r t:Rat)(hl:x.length≤6)(hx:∀v∈x,okQ 1000 v)(or:okQ 1000 r)(ot:okQ 1000 t)(hr:0<r):Ret Tryz.prog 120 [qsD x,qD r,qD t] (·=qD (sumV (actF x r t) (1/(r*r)) t))∧okQ 500000 (sumV (actF x r t) (1/(r*r)) t):=by
 have og:∀i,okQ 1000 (x.getD i 0):=fun i=>qCv hx (by decide) i
 obtain ⟨H,hH⟩:∃H:Nat->Rat,∀i,H i=sumV (actF (x.take i) r t) (1/(r*r)) t:=⟨fun i=>sumV (actF (x.take i) r t) (1/(r*r)) t,fun _=>rfl⟩
 have h0:H 0=0:=by rw [hH];rfl
 have hs:∀i,i<x.length->H (i+1)=H i+(if absQ (x.getD i 0-t)<r then psiV (x.getD i 0-t) (1/(r*r)) else 0):=fun i hi=>by
  rw [hH,hH,show x.take (i+1)=x.take i++[x.getD i 0] by rw [List.take_add_one,List.getD_eq_getElem?_getD,List.getElem?_eq_getElem hi];rfl,qSs]
  split
  ·rw [qM1]
  ·rw [List.append_nil,Rat.add_zero]
 have ps:=fun i=>ref22_psi (x.getD i 0-t) r (((og i).sub ot).mono (by decide)) or hr
 have oH:∀i,i≤x.length->okQ (2+i*60001) (H i):=fun i=>by
  induction i with
  |zero=>intro _;rw [h0];exact qB9 (by decide)
  |succ i ih=>
   intro hi
   rw [hs i (by omega)]
   exact ((ih (by omega)).add (ps i).2).mono (by omega)
 have hE:sumV (actF x r t) (1/(r*r)) t=H x.length:=by rw [hH,List.take_of_length_le (Nat.le_refl _)]
 rw [hE]
 refine ⟨?_,(oH _ (Nat.le_refl _)).mono (by omega)⟩
 clear hH hx hE
 refine qAa tab Tryz.func120 rfl rfl (lblz rfl) (fun w0 F0=>?_)
 repeat' (first|refine wG ?_|refine rg 5 9 ?_|refine wS ?_ ?_<;>intro _|refine finG ?_)
 refine qJy ((Conv.box 7 (cs:=[.bool false,.nils,.nils]) (rC r0) rfl leL).trans (Conv.box 6 (cs:=[.bool false,.nils,.nils]) (rC r0) rfl leL)) ?_
 refine qAi (fun (i:Nat)=>([(0,.d (qsD x)),(4,.ptr 4 0),(5,.ptr 5 0),(6,.ptr 6 0),(7,.ptr 7 0),(8,.d (.int .i64 i))],[(4,.box 27 ((rC (rq r)).map V.d)),(5,.box 27 ((rC (rq t)).map V.d)),(6,.box 27 ((rC r0).map V.d)),(7,.box 27 ((rC (rq (H i))).map V.d))])) (fun i=>i≤x.length) (fun i=>x.length-i) 0 (by omega) ⟨rfl,rfl,rfl,rfl,rfl,rfl,rfl⟩ ⟨rfl,rfl,rfl,(by rw [h0,qM2];rfl),trivial⟩ (fun i hi=>?_)
 by_cases h3:i<x.length
 ·have s1:=qIv (x.getD i 0) t ((og i).mono (by decide)) (ot.mono (by decide))
  obtain ⟨p1,p2⟩:=ps i
  have a1:=qLh (H i) (if absQ (x.getD i 0-t)<r then psiV (x.getD i 0-t) (1/(r*r)) else 0) ((oH i (by omega)).mono (by omega)) (p2.mono (by decide))
  rw [←hs i h3] at a1
  generalize (if absQ (x.getD i 0-t)<r then psiV (x.getD i 0-t) (1/(r*r)) else 0)=c at *
  generalize x.getD i 0-t=d at *
  clear oH hs og ps p2
  repeat' (first|refine wG ?_|refine wC s1 ?_|refine wC p1 ?_|refine wC a1 ?_|refine rg 5 9 ?_|refine wS ?_ ?_<;>intro _|refine finG ?_)
  exact ⟨i+1,by omega,by omega,⟨rfl,rfl,rfl,rfl,rfl,iv (by omega),rfl⟩,rfl,rfl,rfl,rfl,trivial⟩
 ·have e:i=x.length:=by omega
  subst e
  clear oH hs og ps
  repeat' (first|refine wG ?_|refine rg 5 9 ?_|refine wS ?_ ?_<;>intro _|refine finG ?_)
  rfl
end Go.Proofs.YtejigedigmagdaaGreat
namespace Go.Vw
theorem sq_nonneg''(x:Rat):0≤x*x:=by
 by_cases h:0≤x
 ·exact Rat.mul_nonneg h h
 ·have:0≤ -x:=by grind
  have:=Rat.mul_nonneg this this
  grind
def estL(l:List Rat)(p:Rat)(g:Nat):List Rat:=[medLo l,medHi l,midQ l,qLo l p,qHi l p,medLo (hlL l),medHi (hlL l),trimQ l g,winQ l g,midQ (distQ l (midQ l)),qnQ l]
def Within(a b:Rat)(l:List Rat):Prop:=∀x∈l,a≤x∧x≤b
theorem getD_mem_in{l:List Rat}{i:Nat}(h:i<l.length):l.getD i 0∈l:=by
 rw [List.getD_eq_getElem?_getD,List.getElem?_eq_getElem h]
 exact List.getElem_mem h
theorem Within.srt{a b:Rat}{l:List Rat}(h:Within a b l):Within a b (srt l):=fun x hx=>h x ((qD3 l).subset hx)
theorem Within.get{a b:Rat}{l:List Rat}(h:Within a b l){i:Nat}(hi:i<l.length):a≤l.getD i 0∧l.getD i 0≤b:=h _ (getD_mem_in hi)
theorem Within.med{a b:Rat}{l:List Rat}(h:Within a b l)(h0:0<l.length):(a≤medLo l∧medLo l≤b)∧(a≤medHi l∧medHi l≤b)∧a≤midQ l∧midQ l≤b:=by
 have hl:=qE2 l
 have h1:=h.srt.get (i:=(l.length+1)/2-1) (by omega)
 have h2:=h.srt.get (i:=l.length/2) (by omega)
 refine ⟨h1,h2,?_⟩
 unfold midQ medLo medHi
 constructor<;>grind
theorem Within.sum{a b:Rat}:∀{l:List Rat},Within a b l->((l.length:Int):Rat)*a≤sumQ l∧sumQ l≤((l.length:Int):Rat)*b
 |[],_=>by
  rw [sumQ_nil,List.length_nil]
  rw [show (((0:Nat):Int):Rat)=0 from rfl]
  constructor<;>grind
 |x::l,h=>by
  obtain ⟨h1,h2⟩:=Within.sum (l:=l) fun y hy=>h y (List.mem_cons_of_mem _ hy)
  have hx:=h x List.mem_cons_self
  rw [sumQ_cons,List.length_cons,show (((l.length+1:Nat):Int):Rat)=((l.length:Int):Rat)+1 by rw [Int.natCast_add,Rat.intCast_add];rfl]
  constructor<;>grind
theorem Within.mean{a b:Rat}{l:List Rat}(h:Within a b l)(h0:0<l.length):a≤meanQ l∧meanQ l≤b:=by
 obtain ⟨h1,h2⟩:=h.sum
 have hp:(0:Rat)<((l.length:Int):Rat):=by
  have:((0:Int):Rat)<((l.length:Int):Rat):=Rat.intCast_lt_intCast.2 (by omega)
  exact this
 unfold meanQ
 generalize ((l.length:Int):Rat)=n at *
 have e:sumQ l=(sumQ l/n)*n:=(Rat.div_mul_cancel (by grind)).symm
 constructor
 ·refine Rat.not_lt.1 fun hlt=>?_
  have:=Rat.mul_lt_mul_of_pos_right hlt hp
  grind
 ·refine Rat.not_lt.1 fun hlt=>?_
  have:=Rat.mul_lt_mul_of_pos_right hlt hp
  grind
theorem Within.hl{a b:Rat}{l:List Rat}(h:Within a b l):∀k,k≤l.length->Within a b (qPp l k)
 |0,_=>fun x hx=>by simp [qPp] at hx
 |k+1,hk=>fun x hx=>by
  rw [qPp,List.mem_append] at hx
  rcases hx with hx|hx
  ·exact h.hl k (by omega) x hx
  ·obtain ⟨y,hy,rfl⟩:=List.mem_map.1 hx
   have h1:=h y (List.mem_of_mem_take hy)
   have h2:=h.get (i:=k) (by omega)
   constructor<;>grind
theorem Within.est{a b:Rat}{l:List Rat}(h:Within a b l)(h0:2≤l.length)(hn:l.length≤12)(p:Rat){g:Nat}(hg:g≤(l.length-1)/2):Within a b ((estL l p g).take 9):=by
 have hsl:=qE2 l
 obtain ⟨m1,m2,m3⟩:=h.med (by omega)
 obtain ⟨h1,h2,_⟩:=(show Within a b (hlL l) from h.hl _ (Nat.le_refl _)).med (hlL_len hn (by omega)).2
 have q1:=h.srt.get (i:=(min (qFirst p l.length) ((l.length:Int)-1)).toNat) (by omega)
 have q2:=h.srt.get (i:=(min (p*(l.length:Int)).floor ((l.length:Int)-1)).toNat) (by omega)
 have t1:a≤trimQ l g∧trimQ l g≤b:=Within.mean (fun x hx=>h.srt x (by unfold trimR at hx;exact List.mem_of_mem_drop (List.mem_of_mem_take hx))) (by unfold trimR;rw [List.length_take,List.length_drop,hsl];omega)
 have w1:a≤winQ l g∧winQ l g≤b:=Within.mean (fun x hx=>h.srt x (winL_mem _ g (by omega) g x hx)) (by rw [qU9];omega)
 intro x hx
 simp only [estL,List.take_succ_cons,List.take_zero,List.mem_cons,List.not_mem_nil,or_false] at hx
 rcases hx with rfl|rfl|rfl|rfl|rfl|rfl|rfl|rfl|rfl
 ·exact m1
 ·exact m2
 ·exact m3
 ·exact q1
 ·exact q2
 ·exact h1
 ·exact h2
 ·exact t1
 ·exact w1
def pick(l:List Rat)(q:List Int):List Rat:=q.map fun z=>l.getD z.toNat 0
end Go.Vw
namespace Go.Proofs.YtejigedigmagdaaGreat
open Go.Vw
attribute [local irreducible] awp awpL awpR qKb
theorem pow_ne{x:Rat}(h:x≠0):∀i:Nat,x^i≠0
 |0=>by rw [Rat.pow_zero];decide
 |i+1=>fun e=>by
  rw [Rat.pow_succ] at e
  rcases Rat.mul_eq_zero.1 e with k|k
  ·exact pow_ne h i k
  ·exact h k
theorem cnt_piece{N P Q:Int}{x:List Rat}{r:Rat}(h:TkIn N P Q x r){j:Nat}(hj:j+1<(qAc x r).length)(hp:qAj x r j≠[]):cfn (wP2 x r j) ((qAc x r).getD j 0) ((qAc x r).getD (j+1) 0)=cntC qAz (qAj x r j) ((qAc x r).getD j 0) ((qAc x r).getD (j+1) 0)-if qAb (qAj x r j) ((qAc x r).getD (j+1) 0)=0 then 1 else 0:=by
 have hk:=h.wok hj hp
 have hab:=asc_lt (qBx x r).1 hj
 have lp:(qAj x r j).length≤6:=qHn _ _
 have tp:Tr (qAj x r j):=qLu _ _
 rw [qTg hk.tr]
 unfold wP2
 generalize (qAc x r).getD j 0=a at *
 generalize (qAc x r).getD (j+1) 0=b at *
 obtain ⟨s1,s2,s3,s4,i,s5⟩:=qFd 6 (s:=a) tp hp lp
 have c1:=wo_cnt qDx (s:=a) (n:=6) tp hp lp a b
 rw [if_neg (fun k=>absurd k.2.1 Rat.lt_irrefl)] at c1
 have c2:=wo_cnt qDx (s:=b) (n:=6) s1 s2 (by omega) a b
 have ne:(b-a)^i≠0:=by
  have:b-a≠0:=by grind
  exact pow_ne this i
 have e:qAb (woP 6 (qAj x r j) a) b=0↔qAb (qAj x r j) b=0:=by
  rw [s5 b]
  constructor
  ·intro k;rw [k,Rat.mul_zero]
  ·intro k
   rcases Rat.mul_eq_zero.1 k with g|g
   ·exact absurd g ne
   ·exact g
 by_cases z:qAb (qAj x r j) b=0
 ·rw [if_pos z]
  rw [if_pos ⟨e.2 z,hab,Rat.le_refl⟩] at c2
  omega
 ·rw [if_neg z]
  rw [if_neg (fun k=>z (e.1 k.1))] at c2
  omega
end Go.Proofs.YtejigedigmagdaaGreat
namespace Go.Vw
def powP(q:List Rat):Nat->List Rat
 |0=>[1]
 |i+1=>mulC q (powP q i)
theorem ev_pow(q:List Rat)(x:Rat):∀i,qAb (powP q i) x=qAb q x^i
 |0=>by rw [Rat.pow_zero];exact qJ8 x
 |i+1=>by
  show qAb (mulC q (powP q i)) x=_
  rw [qAg,ev_pow q x i,Rat.pow_succ,Rat.mul_comm]
theorem dEv_pow(q:List Rat)(x:Rat):∀i,qAb q x*dEv (powP q i) x=((i:Nat):Rat)*dEv q x*qAb (powP q i) x
 |0=>by
  have e:dEv (powP q 0) x=0:=by
   show dEv [1] x=0
   rw [qEk,qK3]
   simp only [qAb]
   grind
  have z:((0:Nat):Rat)=0:=rfl
  rw [e,z]
  grind
 |i+1=>by
  have ih:=dEv_pow q x i
  show qAb q x*dEv (mulC q (powP q i)) x=_*_*qAb (mulC q (powP q i)) x
  have c:((i+1:Nat):Rat)=((i:Nat):Rat)+1:=Rat.natCast_add i 1
  rw [qDs,qAg,c]
  grind
def derI(g:List Rat):Nat->List Rat
 |0=>g
 |i+1=>derP (derI g i)
theorem qUu:∀(n:Nat) {p:List Rat},Tr p->p≠[]->p.length≤n->∃i c,c≠0∧derI p i=[c]
 |0,p,tp,p0,hl=>absurd (List.length_eq_zero_iff.1 (by omega)) p0
 |n+1,p,tp,p0,hl=>by
  by_cases h1:p.length=1
  ·match p,h1 with
   |[a],_=>
    have:a≠0:=qCo tp p0
    exact ⟨0,a,this,rfl⟩
  ·have l1:=List.length_pos_iff.2 p0
   have ne:derP p≠[]:=fun e=>by
    have h2:cf (derP p) (p.length-2)=0:=by rw [e];rfl
    rw [show derP p=qAd (derC p) from rfl,qBi,qGo] at h2
    have h3:cf p (p.length-2+1)≠0:=by
     have:=qCo tp p0
     unfold lead at this
     rwa [show p.length-1=p.length-2+1 by omega] at this
    rcases Rat.mul_eq_zero.1 h2 with k|k
    ·have:(((p.length-2+1:Nat)):Rat)=((0:Nat):Rat):=by exact_mod_cast k
     have:=Rat.natCast_inj.1 this
     omega
    ·exact h3 k
   have lt:=qK2 (p:=p) (by rw [qAr tp];exact p0)
   have lt2:(derP p).length<p.length:=by rw [qAr tp] at lt;exact lt
   obtain ⟨i,c,c0,hi⟩:=qUu n (qAl _:Tr (derP p)) ne (by have:(qAd (derC p)).length=(derP p).length:=rfl;omega)
   refine ⟨i+1,c,c0,?_⟩
   rw [←hi]
   have shift:∀k,derI p (k+1)=derI (derP p) k:=fun k=>by
    induction k with
    |zero=>rfl
    |succ k ih=>show derP (derI p (k+1))=derP (derI (derP p) k);rw [ih]
   exact shift i
theorem dvd_pow{W:List Rat}(tW:Tr W)(W0:W≠[]):∃(k:Nat) (h:List Rat),∀x,qAb (quoP W) x^k=qAb (gcdP W (derP W)) x*qAb h x:=by
 have tE:Tr (derP W):=qAl _
 obtain ⟨g1,g2⟩:=qEo tW tE
 obtain ⟨g3,g4⟩:=g2 (.inl W0)
 have hQ:=qGh tW W0
 obtain ⟨R,hR⟩:=qH7 (qG4 tW tE).2
 unfold quoP
 generalize gcdP W (derP W)=g at *
 generalize (divP W g).1=Q at *
 have dW:∀x,dEv W x=dEv Q x*qAb g x+qAb Q x*dEv g x:=fun x=>by
  have:dEv W x=dEv (mulC Q g) x:=qIj (qA0 fun y=>by rw [hQ y,qAg]) x
  rw [this,qDs]
 have main:∀x,qAb Q x*dEv g x=qAb g x*(qAb R x-dEv Q x):=fun x=>by
  have h1:=hR x
  rw [qCy,dW x] at h1
  grind
 have step:∀i,∃h:List Rat,∀x,qAb (powP Q i) x*qAb (derI g i) x=qAb g x*qAb h x:=fun i=>by
  induction i with
  |zero=>exact ⟨[1],fun x=>by show qAb [1] x*qAb g x=qAb g x*qAb [1] x;rw [Rat.mul_comm]⟩
  |succ i ih=>
   obtain ⟨h,hh⟩:=ih
   refine ⟨addC (addC (mulC (subC R (derC Q)) h) (mulC Q (derC h))) (smul (-((i:Nat):Rat)) (mulC (derC Q) h)),fun x=>?_⟩
   have d:dEv (powP Q i) x*qAb (derI g i) x+qAb (powP Q i) x*dEv (derI g i) x=dEv g x*qAb h x+qAb g x*dEv h x:=by
    have e:dEv (mulC (powP Q i) (derI g i)) x=dEv (mulC g h) x:=qIj (qA0 fun y=>by rw [qAg,qAg];exact hh y) x
    rwa [qDs,qDs] at e
   have p:=dEv_pow Q x i
   have m:=main x
   have hx:=hh x
   have e1:qAb (derI g (i+1)) x=dEv (derI g i) x:=by show qAb (derP (derI g i)) x=_;rw [qCy]
   have e2:qAb (powP Q (i+1)) x=qAb Q x*qAb (powP Q i) x:=by show qAb (mulC Q (powP Q i)) x=_;rw [qAg]
   have eq:qAb (derC Q) x=dEv Q x:=rfl
   have eh:qAb (derC h) x=dEv h x:=rfl
   rw [e1,e2,qBh,qBh,qA4,qAg,qAg,qAg,qEj,eq,eh]
   grind
 obtain ⟨i,c,c0,hi⟩:=qUu g.length g1 g3 (Nat.le_refl _)
 obtain ⟨h,hh⟩:=step i
 refine ⟨i,smul (1/c) h,fun x=>?_⟩
 have:=hh x
 rw [hi,ev_pow] at this
 rw [qA4]
 have ec:qAb [c] x=c:=by simp only [qAb];grind
 rw [ec] at this
 have:=qAm (a:=1) (b:=c) c0
 grind
end Go.Vw
