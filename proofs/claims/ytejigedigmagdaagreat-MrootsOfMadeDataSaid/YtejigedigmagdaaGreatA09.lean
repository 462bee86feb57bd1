/-
 Contracts of functions of the program, and the layer that they are walked with: W13 W21 W22 VRf VRg Y01 Y05 N15 Y06 Y07 Y08 Y09 Y02 Y03 Y04 Y10. Conditions: as each says.
-/
import Derived.RangeFuncRecord
import Derived.OrdersIn
import Derived.TacticsIn
import Derived.RangeFuncLeaves
import Derived.Test.YtejigedigmagdaaGreatA08
set_option linter.unnecessarySimpa false
set_option linter.unusedVariables false
set_option linter.unusedSimpArgs false
set_option maxHeartbeats 8000000
namespace Go.Proofs.YtejigedigmagdaaGreat
open Go.Vw
attribute [local irreducible] awp awpL awpR
theorem made_ModW(k n:Int)(hk: -9223372036854775808≤k)(hk':k<9223372036854775808)(h:0<n)(h':n<10000000):Ret Tryz.prog 17 [.int .i64 k,.int .i64 n] (·= .int .i64 (k%n)):=by
 obtain ⟨t1,t2,t3⟩:=tmodFact k n h
 rw [t3]
 refine qAa tab Tryz.func17 rfl rfl (lblz rfl) (fun w0 F0=>?_)
 repeat' (first|refine wG ?_|refine wS ?_ ?_<;>intro _|refine finG ?_)
 ·rename_i hc;rw [if_pos hc]
 ·rename_i hc;rw [if_neg hc]
def numQ(v:Int):Rat:=Rat.divInt (v%61-30) (1+v.tdiv 61%4)
theorem qRv(v:Int)(h1: -9223372036854775808≤v)(h2:v<9223372036854775808):Ret Tryz.prog 22 [.int .i64 v] (·=qD (numQ v)):=by
 have hb: -9223372036854775808≤v.tdiv 61∧v.tdiv 61<9223372036854775808:=by
  rcases Int.le_total 0 v with h|h
  ·rw [Int.tdiv_eq_ediv_of_nonneg h];omega
  ·obtain ⟨m,rfl⟩:∃m:Int,v= -m:=⟨-v,by omega⟩
   rw [Int.neg_tdiv,Int.tdiv_eq_ediv_of_nonneg (show 0≤m by omega)];omega
 have m1:=made_ModW v 61 h1 h2 (by decide) (by decide)
 have m2:=made_ModW (v.tdiv 61) 4 hb.1 hb.2 (by decide) (by decide)
 have hw:IntKind.i64.wrap (v.tdiv 61)=v.tdiv 61:=Go.IntWalk.i64_in _ (by omega)
 have f:=qKi (v%61-30) (1+v.tdiv 61%4) (by omega) (by omega) (by omega) (by omega)
 unfold numQ
 have r1:=Int.emod_nonneg v (show (61:Int)≠0 by decide)
 have r2:=Int.emod_lt_of_pos v (show (0:Int)<61 by decide)
 have r3:=Int.emod_nonneg (v.tdiv 61) (show (4:Int)≠0 by decide)
 have r4:=Int.emod_lt_of_pos (v.tdiv 61) (show (0:Int)<4 by decide)
 generalize v.tdiv 61%4=z at *
 generalize v%61=y at *
 rw [←hw] at m2
 clear hw hb
 refine qAa tab Tryz.func22 rfl rfl (lblz rfl) (fun w0 F0=>?_)
 repeat' (first|refine wG ?_|refine wC m1 ?_|refine wC m2 ?_|refine wC f ?_|refine wS ?_ ?_<;>intro _|refine finG ?_)
 all_goals rfl
theorem made_Numbers(l:List Int)(m:Nat)(hl:l.length≤9223372036854775807)(hx:I64 l)(hm:m≤1000):Ret Tryz.prog 15 [i64s l,.int .i64 m] (·=qsD ((l.take m).map numQ)):=by
 refine qAa tab Tryz.func15 rfl rfl (lblz rfl) (fun w0 F0=>?_)
 repeat' (first|refine wG ?_|refine wS ?_ ?_<;>intro _|refine finG ?_)
 refine qB3 5 500 27 3 qC 0 rfl ?_
 refine qAi (fun (i:Nat)=>([(0,.d (i64s l)),(1,.d (.int .i64 m)),(5,.own 500 0 ((l.take i).map numQ).length 27 3),(6,.d (.int .i64 i))],[(500,.data 27 3 qC 0 ((l.take i).map numQ))])) (fun i=>i≤l.length∧i≤m) (fun i=>m-i) 0 ⟨by omega,by omega⟩ ⟨rfl,rfl,rfl,rfl,rfl⟩ ⟨rfl,trivial⟩ (fun i hi=>?_)
 obtain ⟨i1,i2⟩:=hi
 have hlen:((l.take i).map numQ).length=i:=by simp;omega
 by_cases h3:i<l.length∧i<m
 ·obtain ⟨h4,h5⟩:=h3
  have hg:=hx.getD i
  have hn:=qRv (l.getD i 0) hg.1 hg.2
  have e:(l.take i).map numQ++[numQ (l.getD i 0)]=(l.take (i+1)).map numQ:=by
   rw [List.take_add_one,List.map_append,List.getElem?_eq_getElem h4,List.getD_eq_getElem?_getD,List.getElem?_eq_getElem h4]
   rfl
  repeat' (first|refine wG ?_|refine wC hn ?_|refine wS ?_ ?_<;>intro _|refine finG ?_)
  exact ⟨i+1,⟨by omega,by omega⟩,by omega,⟨rfl,rfl,by rw [←e];rfl,iv (by omega),rfl⟩,by rw [←e];rfl,trivial⟩
 ·have e:l.take i=l.take m:=by
   by_cases h4:i<l.length
   ·rw [show i=m by omega]
   ·rw [List.take_of_length_le (by omega),List.take_of_length_le (by omega)]
  rw [e] at hlen ⊢
  repeat' (first|refine wG ?_|refine wS ?_ ?_<;>intro _|refine finG ?_)
  all_goals rfl
theorem qT0(x:Rat)(h:okQ 1000000 x):Ret Tryz.prog 50 [qD x] (·=qD (absQ x)):=by
 have sg:=qD9 x (h.mono (by decide))
 have n1:=qQ8 (rq x) (qAs (h.mono (by decide)))
 rw [qAw] at n1
 have n2:=qMe x (h.mono (by decide))
 have hs:x.num.sign<0↔x<0:=by rw [←num_lt0,←Int.not_le,←Int.not_le,Int.sign_nonneg_iff]
 generalize x.num.sign=s at *
 unfold absQ
 by_cases c:x<0
 ·have hn:=hs.2 c
  rw [if_pos c]
  clear hs
  refine qAa tab Tryz.func50 rfl rfl (lblz rfl) (fun w0 F0=>?_)
  repeat' (first|refine wG ?_|refine wC sg ?_|refine wC n1 ?_|refine wS ?_ ?_<;>intro _|refine finG ?_)
  rfl
 ·have hn:=mt hs.1 c
  rw [if_neg c]
  clear hs
  refine qAa tab Tryz.func50 rfl rfl (lblz rfl) (fun w0 F0=>?_)
  repeat' (first|refine wG ?_|refine wC sg ?_|refine wC n2 ?_|refine wS ?_ ?_<;>intro _|refine finG ?_)
  rfl
end Go.Proofs.YtejigedigmagdaaGreat
set_option linter.unusedSectionVars false
namespace Go.Vw
open Go.RowKit
def wf(ro:Option Nat):Fence:={fn:=fun _=>True,depth:=none,alive:=false,round:=ro}
def noDef(ops:List Oper):Bool:=ops.all fun o=>match o.op with| .defer _=>false|_=>true
theorem qQd{ops:List Oper}(h:noDef ops=true){o:Oper}(ho:o∈ops):∀c,o.op≠ .defer c:=fun c e=>by
 have:=List.all_eq_true.1 h o ho
 rw [e] at this;cases this
def qRi(o:Oper):Bool:=match o.op with| .move _| .assign _| .load _ _| .store _ _ _=>true|_=>false
section
variable {ro:Option Nat} {n:Nat} {P:Program} {all:Array Oper} {o:Oper} {a:Act} {w:World} {K K':Act->World->Prop} {Q Q':Exit->Act->World->Prop}
theorem calls_in{f:FuncId}{vs:Array Value}{R R':Ending->World->Prop}(h:Calls P f vs w R)(hr:∀e w',R e w'->R' e w'):CallsIn (wf ro) n P f vs w R':=
 CallsIn.mono (show CallsIn Fence.wide n P f vs w R from callsIn_wide.2 h) hr
theorem oper_in(m:List Deferred)(hm:m=[]∨qRi o=true)(hd:∀c,o.op≠ .defer c)(hK:∀a w,K a w->K' {a with defers:=m++a.defers} w)(hQ:∀e a w,e≠ .normal->Q e a w->Q' e {a with defers:=m++a.defers} w)(h:o.wp P a w K Q):o.wpIn (wf ro) n P {a with defers:=m++a.defers} w K' Q':=by
 unfold Oper.wp at h
 unfold Oper.wpIn
 refine ⟨fun f _=>trivial,?_⟩
 rw [show (wf ro).round=ro from rfl,Oper.semAt_eq ro _ o hd]
 have hev:({a with defers:=m++a.defers}:Act).eval=a.eval:=rfl
 rw [hev]
 have hput:∀v,({a with defers:=m++a.defers}:Act).put o.dst v={(a.put o.dst v) with defers:=m++(a.put o.dst v).defers}:=fun v=>by
  cases o.dst<;>rfl
 have hlo:LetsOut Q->LetsOut Q':=fun ⟨a,w,h⟩=>⟨_,w,hQ _ _ _ (by simp) h⟩
 have hnd:∀d w',qRi o=true->(execOp a.eval o).run P w≠ .ok (.defer d) w':=fun d w' hp e=>by
  obtain ⟨dst,op,ty,pos,after,g⟩:=o
  unfold qRi at hp
  cases op<;>simp only at hp<;>first|cases hp|skip
  all_goals simp only [execOp,Sem.run_bind,Sem.run_pure] at e
  ·cases e
  ·cases e
  ·rename_i t x
   cases h2:(Instr.loadAt t (a.eval x)).run P w<;>rw [h2] at e<;>simp [Result.andThen] at e
  ·rename_i t x y
   cases h2:(Instr.storeAt t (a.eval x) (a.eval y)).run P w<;>rw [h2] at e<;>simp [Result.andThen] at e
 generalize hr:(execOp a.eval o).run P w=r at *
 cases r with
 |ok x w'=>
  cases x with
  |value v=>simp only [Oper.upon,Oper.uponIn] at h ⊢;rw [hput];exact hK _ _ h
  |skip=>simp only [Oper.upon,Oper.uponIn] at h ⊢;rw [hput];exact hK _ _ h
  |defer d=>
   rcases hm with rfl|hp
   ·simp only [Oper.upon,Oper.uponIn] at h ⊢
    exact hK _ _ h
   ·exact absurd rfl (hnd d w' hp)
  |enter f args=>
   simp only [Oper.upon,Oper.uponIn] at h ⊢
   refine ⟨fun h=>by simp [wf] at h,calls_in h fun e w'' he=>?_⟩
   cases e with
   |returned v=>simp only at he ⊢;rw [hput];exact hK _ _ he
   |panicked chain=>exact hQ _ _ _ (by simp) he
   |outgrown=>exact hlo he
  |row row args=>
   simp only [Oper.upon,Oper.uponIn] at h ⊢
   refine ⟨fun h=>by simp [wf] at h,fun c cs hr=>?_⟩
   obtain ⟨v,w2,q,st⟩:=h c cs
   refine ⟨v,w2,?_,(show StepsIn (Machine.fenced P Fence.wide) P _ _ from stepsIn_wide.2 st)⟩
   show K' _ _
   rw [hput];exact hK _ _ q
  |_=>simp only [Oper.upon] at h
 |halt x w'=>cases x<;>simp only [Oper.upon,Oper.uponIn] at h ⊢ <;>first|exact h.elim|exact hQ _ _ _ (by simp) h
abbrev Act.mk'(m:List Deferred)(a:Act):Act:={a with defers:=m++a.defers}
theorem put_mk(m:List Deferred)(a:Act)(d:Option Tmp)(v:Value):Act.put (Act.mk' m a) d v=Act.mk' m (a.put d v):=by cases d<;>rfl
theorem qRw(m:List Deferred){l2:List Oper}:∀(l1:List Oper),(∀o∈l1,(∀c,o.op≠ .defer c)∧(m=[]∨qRi o=true))->∀(a:Act) (w:World),(∀a w,Q .normal a w->wpListIn (wf ro) n P all Q' l2 (Act.mk' m a) w)->(∀e a w,e≠ .normal->Q e a w->Q' e (Act.mk' m a) w)->¬LetsOut Q->wpList P all Q l1 a w->wpListIn (wf ro) n P all Q' (l1++l2) (Act.mk' m a) w
 |[],_,a,w,h2,_,_,h=>h2 _ _ h
 |o::l1,hd,a,w,h2,hQ,hlo,h=>by
  simp only [wpList] at h
  simp only [List.cons_append,wpListIn]
  split at h
  ·rename_i hw
   rw [if_pos hw]
   rcases h with h|⟨_,h⟩
   ·exact oper_in m (hd o (by simp)).2 (hd o (by simp)).1 (fun a w hk=>qRw m l1 (fun o ho=>hd o (by simp [ho])) a w h2 hQ hlo hk) hQ h
   ·exact absurd h hlo
  ·rename_i hw
   rw [if_neg hw,put_mk]
   exact ⟨fun f _=>trivial,qRw m l1 (fun o ho=>hd o (by simp [ho])) _ w h2 hQ hlo h⟩
theorem op_in(hd:∀o∈all.toList,∀c,o.op≠ .defer c)(hlo:¬LetsOut Q){i:Nat}(hK:∀a w,K a w->K' a w)(h:wpOp P all Q i K a w):wpOpIn (wf ro) n P all Q i K' a w:=by
 unfold wpOp at h
 unfold wpOpIn
 split
 ·rename_i ho;rw [ho] at h;exact hK _ _ h
 ·rename_i o ho
  rw [ho] at h
  simp only at h
  split at h
  ·rename_i hw
   rw [if_pos hw]
   rcases h with h|⟨_,h⟩
   ·exact oper_in (K':=K') (Q':=Q) [] (.inl rfl) (hd o (by rw [Array.mem_toList_iff];exact Array.mem_of_getElem? ho)) (fun a w hk=>hK _ _ hk) (fun _ _ _ _ h=>h) h
   ·exact absurd h hlo
  ·rename_i hw
   rw [if_neg hw]
   exact ⟨fun f _=>trivial,hK _ _ h⟩
theorem any_in{md:Region.Mode}(hd:∀o∈all.toList,∀c,o.op≠ .defer c)(hlo:¬LetsOut Q):∀(fuel:Nat) (listed:Array Bool) (a:Act) (w:World),wpAny P md all Q fuel listed a w->wpAnyIn (wf ro) n P md all Q fuel listed a w
 |0,_,_,_,h=>h
 |fuel+1,listed,a,w,h=>⟨h.1,fun i hi=>op_in hd hlo (fun a w hk=>any_in hd hlo fuel _ a w hk) (h.2 i hi)⟩
end
theorem operIn_post{ro:Option Nat}{n:Nat}{P:Program}{o:Oper}{a:Act}{w:World}{K K':Act->World->Prop}{Q Q':Exit->Act->World->Prop}(hK:∀a w,K a w->K' a w)(hQ:∀e a w,Q e a w->Q' e a w)(h:o.wpIn (wf ro) n P a w K Q):o.wpIn (wf ro) n P a w K' Q':=by
 unfold Oper.wpIn at *
 refine ⟨h.1,?_⟩
 have h:=h.2
 have hlo:LetsOut Q->LetsOut Q':=fun ⟨a,w,h⟩=>⟨_,w,hQ _ _ _ h⟩
 generalize (o.semAt (wf ro).round a.eval).run P w=r at *
 cases r with
 |ok x w'=>
  cases x<;>simp only [Oper.uponIn] at h ⊢ <;>
   first
    |exact hK _ _ h
    |exact ⟨h.1,CallsIn.mono h.2 (fun e w'' he=>by cases e<;>first|exact hK _ _ he|exact hQ _ _ _ he|exact hlo he)⟩
    |exact ⟨h.1,RowsIn.mono h.2 (fun _ _ he=>hK _ _ he)⟩
    |exact ⟨h.1,RoundIn.mono h.2 (fun e w'' he=>by cases e<;>first|exact hK _ _ he|exact hQ _ _ _ he|exact hlo he)⟩
 |halt x w'=>cases x<;>simp only [Oper.uponIn] at h ⊢ <;>first|exact h|exact hQ _ _ _ h
theorem qHu{ro:Option Nat}{n:Nat}{P:Program}{md:Region.Mode}{all:Array Oper}{Q Q':Exit->Act->World->Prop}(hQ:∀e a w,Q e a w->Q' e a w):∀(fuel:Nat) (listed:Array Bool) (a:Act) (w:World),wpAnyIn (wf ro) n P md all Q fuel listed a w->wpAnyIn (wf ro) n P md all Q' fuel listed a w
 |0,_,_,_,h=>⟨h.1,hQ _ _ _ h.2⟩
 |fuel+1,listed,a,w,h=>⟨fun e=>hQ _ _ _ (h.1 e),fun i hi=>by
  have:=h.2 i hi
  unfold wpOpIn at *
  split
  ·rename_i ho;rw [ho] at this;exact qHu hQ fuel _ a w this
  ·rename_i o ho
   rw [ho] at this
   simp only at this
   split at this
   ·rename_i hw;rw [if_pos hw];exact operIn_post (fun a w h=>qHu hQ fuel _ a w h) hQ this
   ·rename_i hw;rw [if_neg hw];exact ⟨this.1,qHu hQ fuel _ _ w this.2⟩⟩
def liftM(m:List Deferred)(X:Ctx)(Q:Exit->St->Prop):Exit->Act->World->Prop:=fun e a w=>∃a0,a=Act.mk' m a0∧lift X Q e a0 w
def awpI(ro:Option Nat)(m:List Deferred)(X:Ctx)(c:Code)(Q:Exit->St->Prop)(s:St):Prop:=∀n io F a w,SR X io F s a w->c.wpIn (wf ro) n X.P (liftM m X Q) (Act.mk' m a) w
def awpLI(ro:Option Nat)(X:Ctx)(all:Array Oper)(l:List Oper)(Q:Exit->St->Prop)(s:St):Prop:=∀n io F a w,SR X io F s a w->wpListIn (wf ro) n X.P all (liftM [] X Q) l a w
def NoOut(Q:Exit->St->Prop):Prop:=∀s,¬Q .outgrown s
theorem NoOut.then{K:St->Prop}{Q:Exit->St->Prop}(h:NoOut Q):NoOut (andThen K Q):=fun s hs=>h s hs
theorem NoOut.block{id:Nat}{Q:Exit->St->Prop}(h:NoOut Q):NoOut (inBlock id Q):=fun s hs=>h s hs
theorem NoOut.none:NoOut (fun _ _=>False):=fun _ h=>h
theorem noLets{X:Ctx}{Q:Exit->St->Prop}(h:NoOut Q):¬LetsOut (lift X Q):=fun ⟨a,w,s,io,F,hq,_⟩=>h s hq
def qTs(K:St->Prop):Exit->St->Prop:=andThen K (fun _ _=>False)
section
variable {ro:Option Nat} {m:List Deferred} {X:Ctx} {Q:Exit->St->Prop} {s:St}
theorem qLq{x y:Code}(h:awpI ro m X x (andThen (awpI ro m X y Q) Q) s):awpI ro m X (.seq x y) Q s:=fun n io F a w hs=>
 wpIn_seq (wpIn_mono (h n io F a w hs) fun e a w ⟨a0,ea,s',io',F',hq,hs'⟩=>by
  subst ea
  cases e<;>first|exact hq _ _ _ _ _ hs'|exact ⟨a0,rfl,s',io',F',hq,hs'⟩)
theorem awpI_skip(h:Q .normal s):awpI ro m X .skip Q s:=fun n io F a _ hs=>wpIn_skip ⟨a,rfl,s,io,F,h,hs⟩
theorem awpI_ret(h:Q .ret s):awpI ro m X .ret Q s:=fun n io F a _ hs=>wpIn_ret ⟨a,rfl,s,io,F,h,hs⟩
theorem awpI_exit{id:Nat}(h:Q (.exit id) s):awpI ro m X (.exit id) Q s:=fun n io F a _ hs=>wpIn_exit ⟨a,rfl,s,io,F,h,hs⟩
theorem qO6{id:Nat}{c:Code}(h:awpI ro m X c (inBlock id Q) s):awpI ro m X (.block id c) Q s:=fun n io F a w hs=>
 wpIn_block (wpIn_mono (h n io F a w hs) fun e a w ⟨a0,ea,s',io',F',hq,hs'⟩=>by
  subst ea
  cases e with
  |exit n=>
   simp only [inBlock,Exit.inBlock] at hq ⊢
   split<;>rename_i h
   ·subst h;simp only [Nat.beq_refl] at hq;exact ⟨a0,rfl,s',io',F',hq,hs'⟩
   ·have:Nat.beq n id=false:=qEe h
    rw [this] at hq;exact ⟨a0,rfl,s',io',F',hq,hs'⟩
  |normal=>exact ⟨a0,rfl,s',io',F',hq,hs'⟩
  |goto l=>exact ⟨a0,rfl,s',io',F',hq,hs'⟩
  |ret=>exact ⟨a0,rfl,s',io',F',hq,hs'⟩
  |panic c=>exact ⟨a0,rfl,s',io',F',hq,hs'⟩
  |outgrown=>exact ⟨a0,rfl,s',io',F',hq,hs'⟩)
theorem awpI_cond{c:Operand}{x y:Code}{t:Bool}(hc:s.opd c= .d (.bool t))(h1:t=true->awpI ro m X x Q s)(h2:t=false->awpI ro m X y Q s):awpI ro m X (.cond c x y) Q s:=fun n io F a w hs=>by
 have:=hs.opd c
 rw [hc] at this
 simp only [VR,DR] at this
 have hev:(Act.mk' m a).eval c= .bool t:=this
 exact wpIn_cond_split hev (fun e=>h1 e _ _ _ _ _ hs) (fun e=>h2 e _ _ _ _ _ hs)
theorem qHs{id:Nat}{l:List Oper}(h:awpL X l.toArray l Q s)(hQ:NoOut Q)(hd:noDef l=true:=by rfl)(hm:m=[]∨l.all qRi=true:=by first|exact .inl rfl|exact .inr rfl):awpI ro m X (.region id l.toArray false) Q s:=fun n io F a w hs=>by
 refine wpIn_region_lit ?_
 have:=qRw (ro:=ro) (n:=n) (all:=l.toArray) (Q':=liftM m X Q) m (l2:=[]) l (fun o ho=>⟨qQd hd ho,hm.imp (fun h=>h) fun h=>List.all_eq_true.1 h o ho⟩) a w (fun a w h=>wpListIn_nil ⟨a,rfl,h⟩) (fun e a w _ h=>⟨a,rfl,h⟩) (noLets hQ) (h io F a w hs)
 rwa [List.append_nil] at this
theorem awpI_parts{id:Nat}(l1 l2:List Oper)(h:awpL X (l1++l2).toArray l1 (qTs (awpLI ro X (l1++l2).toArray l2 Q)) s)(hd:noDef l1=true:=by rfl):awpI ro [] X (.region id (l1++l2).toArray false) Q s:=fun n io F a w hs=>by
 refine wpIn_region_lit ?_
 exact qRw (ro:=ro) (n:=n) (all:=(l1++l2).toArray) (Q':=liftM [] X Q) [] (l2:=l2) l1 (fun o ho=>⟨qQd hd ho,.inl rfl⟩) a w (fun a w ⟨s',io',F',hq,hs'⟩=>hq n io' F' a w hs') (fun e a w hne ⟨s',io',F',hq,hs'⟩=>by cases e<;>first|(exact absurd rfl hne)|exact hq.elim) (noLets NoOut.none.then) (h io F a w hs)
theorem awpLI_all{all:Array Oper}{l:List Oper}(h:awpL X all l Q s)(hQ:NoOut Q)(hd:noDef l=true:=by rfl):awpLI ro X all l Q s:=fun n io F a w hs=>by
 have:=qRw (ro:=ro) (n:=n) (all:=all) (Q':=liftM [] X Q) [] (l2:=[]) l (fun o ho=>⟨qQd hd ho,.inl rfl⟩) a w (fun a w h=>wpListIn_nil ⟨a,rfl,h⟩) (fun e a w _ h=>⟨a,rfl,h⟩) (noLets hQ) (h io F a w hs)
 rwa [List.append_nil] at this
theorem awpI_any{id:Nat}{ops:List Oper}(hm:X.P.follows .mixedOrders=true)(h:regAny X ops Q s)(hQ:NoOut Q)(hd:noDef ops=true):awpI ro [] X (.region id ops.toArray true) Q s:=fun n io F a w hs=>by
 refine wpIn_region_any hm ?_
 have:=any_in (ro:=ro) (n:=n) (all:=ops.toArray) (fun o ho=>qQd hd (by simpa using ho)) (noLets hQ) _ _ _ _ (h io F a w hs)
 exact qHu (fun e a w h=>⟨a,rfl,h⟩) _ _ _ _ this
end
theorem awpI_loop1{ro:Option Nat}{α:Type}{X:Ctx}{c:Code}{Q:Exit->St->Prop}{s:St}(st:α->List (Nat×V)×List (Nat×Blk))(I:α->Prop)(mu:α->Nat)(x0:α)(h0:I x0)(ht:AllT s (st x0).1)(hb:AllB s (st x0).2)
    (round:∀x,I x->awpI ro [] X c (andThen (fun s'=>∃y,I y∧mu y<mu x∧AllT s' (st y).1∧AllB s' (st y).2) Q) (St.of (st x).1 (st x).2)) (hc:∀x,(qH9 (st x).2 (st x).1&&qEd (st x).2 (st x).2)=true:=by exact fun _=>rfl):awpI ro [] X (.loop c) Q s:=by
  intro n io F a w hs b k cs hro hb' hr
  have key:∀n' x io F a w,mu x=n'->I x->SR X io F (St.of (st x).1 (st x).2) a w->∃e a' w',liftM [] X Q e a' w'∧ArrivesIn (Machine.fenced X.P (wf ro)) X.P (lone (b.atR a (.code c:: .inLoop c::k)) cs w) b k cs e a' w':=by
    intro n'
    induction n' using Nat.strongRecOn with
    |_ n' ih=>
      intro x io F a w hn hI hs
      obtain ⟨e,a₁,w₁,⟨a0,ea,s₁,io₁,F₁,hq,hs₁⟩,harr⟩:=round x hI n io F a w hs b (.inLoop c::k) cs hro hb' hr
      have ea:a₁=a0:=ea
      subst ea
      cases e with
      |normal=>
        obtain ⟨y,hI₁,hlt,hty,hby⟩:=hq
        obtain ⟨e₂,a₂,w₂,hq₂,harr₂⟩:=ih (mu y) (hn▸hlt) y io₁ F₁ a₁ w₁ rfl hI₁ (hs₁.slots hty hby (hc y))
        exact ⟨e₂,a₂,w₂,hq₂,.of_steps (StepsIn.trans harr (.one (fenced_calm hb' hr rfl) stepR_inLoop)) harr₂⟩
      |exit id=>exact ⟨_,a₁,w₁,⟨a₁,rfl,s₁,io₁,F₁,hq,hs₁⟩,.pass (x:=.inLoop c) rfl (fun _ _=>.inl (by simp)) harr⟩
      |goto l=>exact ⟨_,a₁,w₁,⟨a₁,rfl,s₁,io₁,F₁,hq,hs₁⟩,.pass (x:=.inLoop c) rfl (fun _ _=>.inl (by simp)) harr⟩
      |ret=>exact ⟨_,a₁,w₁,⟨a₁,rfl,s₁,io₁,F₁,hq,hs₁⟩,.pass (x:=.inLoop c) rfl (fun _ _=>.inl (by simp)) harr⟩
      |panic ch=>exact ⟨_,a₁,w₁,⟨a₁,rfl,s₁,io₁,F₁,hq,hs₁⟩,.pass (x:=.inLoop c) rfl (fun _ _=>.inl (by simp)) harr⟩
      |outgrown=>exact ⟨_,a₁,w₁,⟨a₁,rfl,s₁,io₁,F₁,hq,hs₁⟩,.pass (x:=.inLoop c) rfl (fun _ _=>.inl (by simp)) harr⟩
  obtain ⟨e,a',w',hq,harr⟩:=key _ x0 io F a w rfl h0 (hs.slots ht hb (hc x0))
  exact ⟨e,a',w',hq,.of_steps (.one (fenced_calm hb' hr rfl) stepR_loop) harr⟩
def YieldC(P:Program)(L:Nat)(A0 F0:Nat->Prop)(w0:World)(io0:Nat->Option Nat)(xs:List V)(bs bs':List (Nat×Blk)):Prop:=
 ∀io F w (vs:Array Value),Kept A0 w0 w->(∀b,F0 b->F b)->(∀b,F b->b<w.heap.size∧(F0 b∨w0.heap.size≤b∨A0 b))->(∀k,qAh bs k≠none->io k=io0 k)->vs.size=xs.length->VRT ⟨io,lnO (qAh bs)⟩ F w (fun i=>vs[i]?) 0 xs->BsR (OwnA (qAh bs) io) w.heap.size io F w (qAh bs)->
  ∃fn tmps assign body,(Instr.yield L vs).run P w= .ok (.round L fn tmps assign body) w∧∀n,RoundIn Fence.wide n P L fn tmps assign body w fun e w'=>e= .returned (.bool true)∧∃io' F',Kept (OwnA (qAh bs) io) w w'∧(∀b,F b->F' b)∧(∀b,F' b->b<w'.heap.size∧(F b∨w.heap.size≤b∨OwnA (qAh bs) io b))∧(∀k,qAh bs k≠none->io' k=io k)∧BsR (OwnA (qAh bs) io) w.heap.size io' F' w' (qAh bs')
section
variable {X:Ctx} {all:Array Oper} {s:St} {o:Oper} {rest:List Oper} {Q:Exit->St->Prop} {c:Call}
theorem run_yieldOp{P:Program}{ev:Operand->Value}{w:World}{y:Operand}{L:Nat}(hop:o.op= .call c)(hcal:c.callee= .value y)(hev:ev y= .func (.yield L) #[] #[]):(execOp ev o).run P w=(Instr.yield L (c.args.map ev)).run P w:=by
 obtain ⟨dst,op,ty,pos,after,g⟩:=o
 cases hop
 simp [execOp,resolve,hcal,hev,Deferred.ofValue,invoke]
theorem lI_yield{y:Operand}{L:Nat}{d:Tmp}{xs:List V}{bs bs':List (Nat×Blk)}(hY:YieldC X.P L X.A X.F0 X.w0 X.io0 xs bs bs')(hg:gd all s o=some true)(hop:o.op= .call c)(hcal:c.callee= .value y)(hy:s.opd y= .d (.raw (.func (.yield L) #[] #[])))(hdst:o.dst=some d)(hd:qB5 X.N (some d)=true)(le:LeVT (c.args.toList.map s.opd) xs)(hB:AllB s bs)(hKs:∀k,qAh bs k≠none->k∈X.K)(hxr:∀k∈V.refsL xs,qAh bs k≠none)(hBr:∀k b,qAh bs k=some b->∀j∈b.refs,qAh bs j≠none)(hBr':∀k b,qAh bs' k=some b->∀j∈b.refs,qAh bs' j≠none)(hkeep:∀k,qAh bs k≠none↔qAh bs' k≠none)(hln:∀k,qAh bs k≠none->lnO (qAh bs) k≤lnO (qAh bs') k)(k:awpLI none X all rest Q ((s.over bs').put (some d) (.d (.bool true)))):awpLI none X all (o::rest) Q s:=fun n io F a w hs=>by
 have hBs:∀k b,qAh bs k=some b->s.blk k=some b:=fun k b hk=>(qDn hB k b hk).1
 have hev:=hs.opd y
 rw [hy] at hev
 simp only [VR,DR] at hev
 have hargs:VRT (s.keys io) F w (fun i=>(c.args.map a.eval)[i]?) 0 (c.args.toList.map s.opd):=by
  rw [VRT_iff]
  intro i x hx
  simp only [List.getElem?_map,Option.map_eq_some_iff] at hx
  obtain ⟨p,hp,rfl⟩:=hx
  refine ⟨a.eval p,?_,hs.opd p⟩
  have hp':c.args[i]? =some p:=by simpa using hp
  simp [Array.getElem?_map,hp']
 have hlnB:∀k,qAh bs k≠none->s.ln k≤lnO (qAh bs) k:=fun k hk=>by
  obtain ⟨b,hb⟩:=Option.ne_none_iff_exists'.1 hk
  rw [qPm hb,qFm (hBs k b hb)];exact Nat.le_refl _
 have hargs2:VRT ⟨io,lnO (qAh bs)⟩ F w (fun i=>(c.args.map a.eval)[i]?) 0 xs:=VRT.agree (io:=s.keys io) _ _ _ (fun k hk=>⟨rfl,hlnB k (hxr k hk)⟩) (le.2 _ _ _ _ _ hargs)
 obtain ⟨fn,tmps,assign,body,h1,h2⟩:=hY io F w (c.args.map a.eval) hs.kept hs.f0 hs.ff (fun k hk=>hs.st k (hKs k hk)) (by rw [le.1];simp) hargs2 (hs.lendB hBs hBr)
 simp only [wpListIn]
 rw [if_pos (qC9 (fun t _=>hs.tm t) hg)]
 unfold Oper.wpIn
 refine ⟨fun f _=>trivial,?_⟩
 rw [show (wf none).round=none from rfl,Oper.semAt_none,run_yieldOp hop hcal hev,h1]
 simp only [Oper.uponIn]
 refine ⟨fun h=>by simp [wf] at h,RoundIn.mono (h2 (n-1)) fun e w' ⟨he,io',F',g1,g2,g3,g4,g6⟩=>?_⟩
 subst he
 obtain ⟨key,_⟩:=hs.afterB [] hBs (fun k hk=>(hkeep k).1 hk) hln hBr' (fun k hk=>.inl ((hkeep k).2 hk)) (fun k hk=>by simp at hk) g1 g2 g3 g4 g6
 have hp:=key.put (dst:=some d) (x:=.d (.bool true)) (v:=.bool true) (qCb hd) (by simp only [VR,DR])
 rw [hdst]
 exact k n _ _ _ _ hp
end
theorem qUf:∀{bs:List (Nat×Blk)} {j:Nat},qAh bs j≠none↔j∈bs.map (·.1)
 |[],j=>by simp [qAh]
 |(k,b)::r,j=>by
  simp only [qAh,List.map_cons,List.mem_cons]
  by_cases e:j=k
  ·subst e;simp
  ·rw [qEe e];simp only [cond_false,e,false_or];exact qUf
structure BsFam (bs:Nat->List (Nat×Blk)) (ks:List Nat):Prop where
 keys:∀k,(bs k).map (·.1)=ks
 cov:∀k,qL3 (bs k) (bs k)=true
 covB:∀k,qEd (bs k) (bs k)=true
 own:∀k,AllB (St.of [] (bs k)) (bs k)
 ln:∀k,LnLe (bs (k+1)) (bs k)
theorem qQn{s s':St}:∀{l:List (Nat×Blk)},(∀k,qFq l k=true->s'.blk k=s.blk k)->AllB s l->AllB s' l
 |[],_,_=>trivial
 |(k,b)::r,h,hb=>⟨(h k (by simp [qFq,qAh])).trans hb.1,qQn (fun j hj=>h j (by
  unfold qFq at *
  simp only [qAh]
  cases Nat.beq j k<;>simp_all)) hb.2⟩
theorem BsFam.of{bs:Nat->List (Nat×Blk)}{ks:List Nat}(h:BsFam bs ks){k:Nat}{s:St}(hs:s.blk=qAh (bs k)):AllB s (bs k):=qQn (s:=St.of [] (bs k)) (fun j _=>by rw [hs];rfl) (h.own k)
theorem BsFam.over{bs:Nat->List (Nat×Blk)}{ks:List Nat}(h:BsFam bs ks){k:Nat}{s:St}:AllB (s.over (bs k)) (bs k):=qQn (s:=St.of [] (bs k)) (fun j hj=>by
 unfold qFq at hj
 simp only [St.over,St.of]
 split at hj
 ·rename_i b hb;rw [hb]
 ·cases hj) (h.own k)
theorem BsFam.same{bs:Nat->List (Nat×Blk)}{ks:List Nat}(h:BsFam bs ks){k:Nat}{s s':St}(hs:s'.blk=(s.over (bs k)).blk):AllB s' (bs k):=qQn (s:=s.over (bs k)) (fun j _=>congrFun hs j) h.over
theorem lnLe_lnO{bs bs':List (Nat×Blk)}(h:LnLe bs' bs){k:Nat}(hk:qAh bs k≠none):lnO (qAh bs) k≤lnO (qAh bs') k:=by
 obtain ⟨b,hb⟩:=Option.ne_none_iff_exists'.1 hk
 rw [qPm hb]
 exact qSv h _ (qEr hb)
theorem BsFam.has{bs:Nat->List (Nat×Blk)}{ks:List Nat}(h:BsFam bs ks)(k j:Nat):qAh (bs k) j≠none↔j∈ks:=by rw [qUf,h.keys]
theorem BsFam.lnO{bs:Nat->List (Nat×Blk)}{ks:List Nat}(h:BsFam bs ks){j:Nat}(hj:j∈ks):∀k,Vw.lnO (qAh (bs 0)) j≤Vw.lnO (qAh (bs k)) j
 |0=>Nat.le_refl _
 |k+1=>Nat.le_trans (h.lnO hj k) (lnLe_lnO (h.ln k) ((h.has k j).2 hj))
theorem BsFam.refs{bs:Nat->List (Nat×Blk)}{ks:List Nat}(h:BsFam bs ks)(k:Nat):∀j b,qAh (bs k) j=some b->∀i∈b.refs,qAh (bs k) i≠none:=fun j b hj i hi=>qF9 (h.cov k) _ (qEr hj) i hi
structure Iter (P:Program) (gf:FuncId) (caps:List D) (N:Nat) (xs:Nat->List D):Prop where
 enters:qU7 P gf
 run:∀(bs:Nat->List (Nat×Blk)) (ks:List Nat),BsFam bs ks->∀(L:Nat) (io:Nat->Option Nat) (F:Nat->Prop) (w:World) (vs:Array Value),(∀b,F b->b<w.heap.size)->vs.size=caps.length+1->DRT F w (fun i=>vs[i]?) 0 (.raw (.func (.yield L) #[] #[])::caps)->BsR (OwnA (qAh (bs 0)) io) w.heap.size io F w (qAh (bs 0))->
  (∀k,k<N->YieldC P L (OwnA (qAh (bs 0)) io) F w io ((xs k).map V.d) (bs k) (bs (k+1)))->∀n,CallsIn Fence.wide n P gf vs w (RetPost io F w (bs 0) (.tup []) (bs N))
theorem iter_of_awpI{P:Program}{T:TypeId->Option TyD}(hT:qFz P T){gf:FuncId}{fn:Func}{c:Code}(hf:P.funcs[gf]? =some fn)(hname:(fn.name== "runtime.NumGoroutine")=false)(hb:fn.body=some c){caps:List D}{N:Nat}{xs:Nat->List D}(hn:caps.length+1≤fn.ntmps)
    (h:∀bs ks,BsFam bs ks->∀L w0 F0 A io0,(∀k,k<N->YieldC P L A F0 w0 io0 ((xs k).map V.d) (bs k) (bs (k+1)))->awpI none [] ⟨P,T,hT,fn.ntmps,w0,A,F0,ks,io0⟩ c (qHx T fn (.tup []) (bs N)) (St.initB (.d (.raw (.func (.yield L) #[] #[]))::caps.map V.d) (bs 0))):Iter P gf caps N xs:=by
  refine ⟨⟨fn,hf,hname,by rw [hb];rfl⟩,fun bs ks hfam L io F w vs hF hl hv hbs hY n=>?_⟩
  refine callsIn_of_wp hf hb trivial ?_ rfl
  have hv':VRT ⟨io,lnO (qAh (bs 0))⟩ F w (fun i=>vs[i]?) 0 (.d (.raw (.func (.yield L) #[] #[]))::caps.map V.d):=drt_toV (io:=⟨io,lnO (qAh (bs 0))⟩) hv
  have hs:=sr_initB hT (N:=fn.ntmps) (ks:=ks) (xs:=.d (.raw (.func (.yield L) #[] #[]))::caps.map V.d) (by simpa using hl) (by simpa using hn) hF hv' hbs
  refine wpIn_mono (h bs ks hfam L w F _ io hY n _ _ _ _ hs) fun e a' w' ⟨a0,ea,s',io',F',hq,hs'⟩=>?_
  have ea:a'=a0:=ea
  subst ea
  have hks:∀j∈ks,qFq (bs N) j=true:=fun j hj=>by
    have:=(hfam.has N j).2 hj
    obtain ⟨b,hb⟩:=Option.ne_none_iff_exists'.1 this
    unfold qFq;rw [hb]
  have hko:∀l:List Nat,(∀j∈l,qFq (bs N) j=true)->qFo (bs N) l=true:=fun l=>by
    induction l with
    |nil=>intro _;rfl
    |cons a l ih=>intro hl;simp only [qFo,Bool.and_eq_true];exact ⟨hl a (by simp),ih fun j hj=>hl j (by simp [hj])⟩
  have hcov:(qFo (bs N) ks&&qFo (bs N) (V.tup []).refs&&qL3 (bs N) (bs N))=true:=by
    simp only [Bool.and_eq_true]
    exact ⟨⟨hko ks hks,rfl⟩,hfam.cov N⟩
  cases e<;>simp only [qHx] at hq<;>first|exact hq.elim|exact retB_fin (hfam.keys 0) hcov hs' hq
theorem lI_yieldF{X:Ctx}{all:Array Oper}{s:St}{o:Oper}{rest:List Oper}{Q:Exit->St->Prop}{c:Call}{y:Operand}{L:Nat}{d:Tmp}{xs:List D}{bs:Nat->List (Nat×Blk)}{k:Nat}(hfam:BsFam bs X.K)(hY:YieldC X.P L X.A X.F0 X.w0 X.io0 (xs.map V.d) (bs k) (bs (k+1)))(hg:gd all s o=some true)(hop:o.op= .call c)(hcal:c.callee= .value y)(hy:s.opd y= .d (.raw (.func (.yield L) #[] #[])))(hdst:o.dst=some d)(hd:qB5 X.N (some d)=true)(le:LeVT (c.args.toList.map s.opd) (xs.map V.d))(hB:AllB s (bs k))(r:awpLI none X all rest Q ((s.over (bs (k+1))).put (some d) (.d (.bool true)))):awpLI none X all (o::rest) Q s:=by
 have hrx:∀(l:List D),V.refsL (l.map V.d)=[]:=fun l=>by
  induction l with
  |nil=>rfl
  |cons a l ih=>simp [V.refsL,V.refs,ih]
 exact lI_yield hY hg hop hcal hy hdst hd le hB (fun j hj=>(hfam.has k j).1 hj) (fun j hj=>by rw [hrx] at hj;simp at hj) (hfam.refs k) (hfam.refs (k+1)) (fun j=>by rw [hfam.has,hfam.has]) (fun j hj=>lnLe_lnO (hfam.ln k) hj) r
theorem BR.cellsAt{A:Nat->Prop}{n0:Nat}{io:Keys}{F:Nat->Prop}{w:World}{k:Nat}{b:Blk}(h:BR A n0 io F w k b){c:Nat}(e:io.io k=some c):∃arr ty,w.heap[c]? =some (.cells arr ty (0,0)):=by
 cases b with
 |data ty sz en z l=>
  simp only [BR] at h
  rcases h with ⟨h0,_⟩|⟨c',arr,g1,g2,g3,g4,_⟩
  ·rw [h0] at e;cases e
  ·rw [g1] at e;cases e;exact ⟨_,_,g4⟩
 |box ty cells=>
  simp only [BR] at h
  obtain ⟨c',arr,g1,g2,g3,g4,_⟩:=h
  rw [g1] at e;cases e;exact ⟨_,_,g4⟩
 |hole ty sz en z l i v=>
  simp only [BR] at h
  obtain ⟨c',arr,g1,g2,g3,g4,_⟩:=h
  rw [g1] at e;cases e;exact ⟨_,_,g4⟩
theorem BR.area{A A':Nat->Prop}{n0 n0':Nat}{io:Keys}{F:Nat->Prop}{w:World}{k:Nat}{b:Blk}(hA:∀c,io.io k=some c->A' c∨n0'≤c)(h:BR A n0 io F w k b):BR A' n0' io F w k b:=by
 cases b with
 |data ty sz e z l=>
  simp only [BR] at h ⊢
  rcases h with h|⟨b,arr,g1,g2,g3,g4,g5⟩
  ·exact .inl h
  ·exact .inr ⟨b,arr,g1,g2,hA _ g1,g4,g5⟩
 |box ty cells=>
  simp only [BR] at h ⊢
  obtain ⟨b,arr,g1,g2,g3,g4,g5⟩:=h
  exact ⟨b,arr,g1,g2,hA _ g1,g4,g5⟩
 |hole ty sz e z l i v=>
  simp only [BR] at h ⊢
  obtain ⟨b,arr,g1,g2,g3,g4,g5⟩:=h
  exact ⟨b,arr,g1,g2,hA _ g1,g4,g5⟩
structure Turn (L:Nat) (w w':World):Prop where
 other:∀b,b≠L->w'.heap[b]? =w.heap[b]?
 size:w'.heap.size=w.heap.size
 nc:∀arr ty fz,w.heap[L]? ≠some (.cells arr ty fz)
 nc':∀arr ty fz,w'.heap[L]? ≠some (.cells arr ty fz)
 os:w'.os=w.os
 tape:w'.tape=w.tape
 output:w'.output=w.output
theorem Turn.shapes{L:Nat}{w w':World}(h:Turn L w w'):Shapes w w':=fun b arr ty fz hb=>by
 by_cases e:b=L
 ·subst e;exact absurd hb (h.nc _ _ _)
 ·exact ⟨arr,(h.other b e).trans hb,rfl⟩
theorem qL5{w:World}{L:Nat}{r r':Loop}(h:w.heap[L]? =some (.loop r)):Turn L w (w.putObj L (.loop r')):=
 ⟨fun b hb=>World.putObj_heap_other hb,by simp,fun arr ty fz e=>(by rw [h] at e;cases e),fun arr ty fz e=>(by rw [World.putObj_heap_same (qBl h)] at e;cases e),rfl,rfl,rfl⟩
theorem SR.rebase{X:Ctx}{io:Nat->Option Nat}{F:Nat->Prop}{s:St}{a:Act}{w w':World}{L:Nat}(hs:SR X io F s a w)(ht:Turn L w w')(hL:¬F L):SR ⟨X.P,X.T,X.ok,X.N,w',OwnA s.blk io,F,X.K,io⟩ io F s a w':=by
 have hi:∀k,(s.keys io).io k=(s.keys io).io k∧(s.keys io).ln k≤(s.keys io).ln k:=fun k=>⟨rfl,Nat.le_refl _⟩
 have hst:qN8 F w w':=fun b hb=>ht.other b fun e=>hL (e▸hb)
 refine ⟨⟨rfl,rfl,rfl,Nat.le_refl _,fun _ _ _=>rfl,Shapes.refl _⟩,fun t=>VR.mono hi (fun _ h=>h) hst ht.shapes _ _ (hs.tm t),hs.nt,DfR.mono hi (fun _ h=>h) hst ht.shapes _ _ hs.df,fun k b hk=>?_,hs.inj,fun b hb=>⟨by show b<w'.heap.size;rw [ht.size];exact (hs.ff b hb).1,.inl hb⟩,fun b hb=>hb,fun k _=>rfl⟩
 have hbr:=hs.bl k b hk
 have hm:BR X.A X.w0.heap.size (s.keys io) F w' k b:=BR.mono hi (fun _ h=>h) hst ht.shapes (fun c o e1 e2 e3=>by
  obtain ⟨arr,ty,hc⟩:=hbr.cellsAt e1
  have hne:c≠L:=fun e=>by subst e;exact ht.nc _ _ _ hc
  exact ⟨(ht.other c hne).trans e2,e3⟩) hbr
 exact BR.area (fun c hc=>.inl ⟨k,by rw [hk];simp,hc⟩) hm
theorem of_keys(ts:List (Nat×V))(bs:List (Nat×Blk))(io:Nat->Option Nat):(St.of ts bs).keys io=⟨io,lnO (qAh bs)⟩:=by unfold St.keys;rw [lnO_eq];rfl
theorem qTu{t k:Nat}:∀{ts:List (Nat×V)},k∈(qNo ts t).refs->k∈V.refsL (ts.map (·.2))
 |[],h=>by simp [qNo,V.refs] at h
 |(j,v)::r,h=>by
  simp only [qNo] at h
  simp only [List.map_cons,V.refsL,List.mem_append]
  cases hb:Nat.beq t j with
  |true=>rw [hb] at h;exact .inl h
  |false=>rw [hb] at h;exact .inr (qTu h)
theorem SR.again{X:Ctx}{io:Nat->Option Nat}{F:Nat->Prop}{ts:List (Nat×V)}{bs0 bsk:List (Nat×Blk)}{ks:List Nat}{a:Act}{w w2:World}(hs:SR X io F (St.of ts bs0) a w)(hrefs:qFo bs0 (V.refsL (ts.map (·.2)))=true)(hln:∀k,qAh bs0 k≠none->lnO (qAh bs0) k≤lnO (qAh bsk) k){io1:Nat->Option Nat}{F1:Nat->Prop}(hst:qN8 F w w2)(hsh:Shapes w w2)(hF:∀b,F b->F1 b)(hF1:∀b,F1 b->b<w2.heap.size)(hio:∀k,qAh bs0 k≠none->io1 k=io k){A:Nat->Prop}{n0:Nat}(hbs:BsR A n0 io1 F1 w2 (qAh bsk)):SR ⟨X.P,X.T,X.ok,X.N,w2,OwnA (qAh bsk) io1,F1,ks,io1⟩ io1 F1 (St.of ts bsk) {tmps:=a.tmps,defers:=[]} w2:=by
 refine ⟨⟨rfl,rfl,rfl,Nat.le_refl _,fun _ _ _=>rfl,Shapes.refl _⟩,fun t=>?_,hs.nt,rfl,fun k b hk=>?_,hbs.inj,fun b hb=>⟨hF1 b hb,.inl hb⟩,fun b hb=>hb,fun k _=>rfl⟩
 ·rw [of_keys]
  have h0:=hs.tm t
  rw [of_keys] at h0
  have h1:VR ⟨io1,lnO (qAh bsk)⟩ F w (qNo ts t) (a.tmps.getD t undef):=VR.agree (io:=⟨io,lnO (qAh bs0)⟩) _ _ (fun k hk=>by
   have:=qHm (qC6 hrefs k (qTu hk))
   exact ⟨hio k this,hln k this⟩) h0
  exact VR.mono (fun k=>⟨rfl,Nat.le_refl _⟩) hF hst hsh _ _ h1
 ·rw [of_keys]
  exact BR.area (fun c hc=>.inl ⟨k,by rw [show qAh bsk k=some b from hk];simp,hc⟩) (hbs.br k b hk)
theorem BR.turn{A:Nat->Prop}{n0:Nat}{io:Keys}{F:Nat->Prop}{w w':World}{k:Nat}{b:Blk}{L:Nat}(ht:Turn L w w')(hL:¬F L)(h:BR A n0 io F w k b):BR A n0 io F w' k b:=
 BR.mono (fun k=>⟨rfl,Nat.le_refl _⟩) (fun _ h=>h) (fun b hb=>ht.other b fun e=>hL (e▸hb)) ht.shapes (fun c o e1 e2 e3=>by
  obtain ⟨arr,ty,hc⟩:=h.cellsAt e1
  have hne:c≠L:=fun e=>by subst e;exact ht.nc _ _ _ hc
  exact ⟨(ht.other c hne).trans e2,e3⟩) h
theorem BsR.turn{A:Nat->Prop}{n0:Nat}{io:Nat->Option Nat}{F:Nat->Prop}{w w':World}{B:Nat->Option Blk}{L:Nat}(ht:Turn L w w')(hL:¬F L)(h:BsR A n0 io F w B):BsR A n0 io F w' B:=⟨fun k b hk=>(h.br k b hk).turn ht hL,h.inj⟩
theorem BsR.area{A A':Nat->Prop}{n0 n0':Nat}{io:Nat->Option Nat}{F:Nat->Prop}{w:World}{B:Nat->Option Blk}(hA:∀c,A c∨n0≤c->A' c∨n0'≤c)(h:BsR A n0 io F w B):BsR A' n0' io F w B:=⟨fun k b hk=>BR.agree hA rfl (fun j _=>⟨rfl,Nat.le_refl _⟩) (h.br k b hk),h.inj⟩
theorem SR.lent{X:Ctx}{io:Nat->Option Nat}{F:Nat->Prop}{s:St}{a:Act}{w:World}(hs:SR X io F s a w){bs:List (Nat×Blk)}(hB:AllB s bs)(hc:qL3 bs bs=true):BsR X.A X.w0.heap.size io F w (qAh bs):=by
 have hln:∀k,qAh bs k≠none->s.ln k≤lnO (qAh bs) k:=fun k hk=>by
  obtain ⟨b,hb⟩:=Option.ne_none_iff_exists'.1 hk
  rw [qFm (qDn hB k b hb).1,qPm hb];exact Nat.le_refl _
 exact ⟨fun k b hk=>BR.agree (io:=s.keys io) (io':=⟨io,lnO (qAh bs)⟩) (fun _ h=>h) rfl (fun j hj=>⟨rfl,hln j (qF9 hc _ (qEr hk) j hj)⟩) (hs.bl k b (qDn hB k b hk).1),fun k k' b e1 e2 e3 e4=>by
  obtain ⟨b1,hb1⟩:=Option.ne_none_iff_exists'.1 e1
  obtain ⟨b2,hb2⟩:=Option.ne_none_iff_exists'.1 e2
  exact hs.inj k k' b (by rw [(qDn hB k b1 hb1).1];simp) (by rw [(qDn hB k' b2 hb2).1];simp) e3 e4⟩
theorem SR.ownIn{X:Ctx}{io:Nat->Option Nat}{F:Nat->Prop}{s:St}{a:Act}{w:World}(hs:SR X io F s a w){c:Nat}(h:OwnA s.blk io c):X.A c∨X.w0.heap.size≤c:=by
 obtain ⟨k,hk,e⟩:=h
 obtain ⟨b,hb⟩:=Option.ne_none_iff_exists'.1 hk
 exact ((hs.bl k b hb).notF e).2.1
def liftE(X:Ctx)(Q:Exit->St->Prop):Exit->Act->World->Prop:=fun e a w=>∃(D:Nat) (a0:Act) (w1:World) (A1 F1:Nat->Prop) (K1:List Nat) (io1 io:Nat->Option Nat) (F:Nat->Prop) (s:St),
 a=Act.mk' [{target:=.collected D,args:= #[]}] a0∧Q e s∧SR ⟨X.P,X.T,X.ok,X.N,w1,A1,F1,K1,io1⟩ io F s a0 w∧Kept X.A X.w0 w1∧(∀b,A1 b->X.A b∨X.w0.heap.size≤b)∧(∀b,X.F0 b->F1 b)∧(∀b,F1 b->X.F0 b∨X.w0.heap.size≤b∨X.A b)∧
 D<w1.heap.size∧w1.heap[D]? =some (.deferred (some []))∧¬A1 D∧¬F1 D∧X.w0.heap.size≤D
def awpE(X:Ctx)(c:Code)(Q:Exit->St->Prop)(s:St):Prop:=∀n io F a w,SR X io F s a w->c.wpIn Fence.wide n X.P (liftE X Q) a w
def awpEB(X:Ctx)(b rest:Code)(Q:Exit->St->Prop)(s:St):Prop:=∀n io F a w,SR X io F s a w->b.wpIn Fence.wide n X.P (Exit.then (rest.wpIn Fence.wide n X.P (liftE X Q)) (fun _ _ _=>False)) a w
theorem awpE_seq{X:Ctx}{x y:Code}{Q:Exit->St->Prop}{s:St}(h:awp X x (qTs (awpE X y Q)) s):awpE X (.seq x y) Q s:=fun n io F a w hs=>
 wpIn_seq (wpIn_mono (wpIn_wide.2 (h io F a w hs)) fun e a w ⟨s',io',F',hq,hs'⟩=>by
  cases e<;>first|exact hq _ _ _ _ _ hs'|exact hq.elim)
theorem awpE_seq2{X:Ctx}{x b rest:Code}{Q:Exit->St->Prop}{s:St}(h:awp X x (qTs (awpEB X b rest Q)) s):awpE X (.seq (.seq x b) rest) Q s:=fun n io F a w hs=>
 wpIn_seq (wpIn_seq (wpIn_mono (wpIn_wide.2 (h io F a w hs)) fun e a w ⟨s',io',F',hq,hs'⟩=>by
  cases e with
  |normal=>
   refine wpIn_mono (hq n _ _ _ _ hs') fun e a w hp=>?_
   cases e<;>first|exact hp|exact hp.elim
  |_=>exact hq.elim))
section
variable {X:Ctx} {ts:List (Nat×V)} {bs:Nat->List (Nat×Blk)} {ks:List Nat} {N:Nat} {g:Operand} {p1 p2:Tmp} {assign body rest:Code} {gf:FuncId} {caps:List D} {x1 x2:Nat->D} {Q:Exit->St->Prop}
theorem awpEB_range{id:Nat}(hfam:BsFam bs ks)(hg:(St.of ts (bs 0)).opd g= .d (.fn gf caps))(hit:Iter X.P gf caps N (fun k=>[x1 k,x2 k]))(htr:qFo (bs 0) (V.refsL (ts.map (·.2)))=true)(hp1:p1<X.N)(hp2:p2<X.N)
    (hround:∀k,k<N->∀L w0 F0 A io0,awpI (some L) [] ⟨X.P,X.T,X.ok,X.N,w0,A,F0,ks,io0⟩ assign (qTs (fun s1=>∀w0 F0 A io0,awpI (some L) [] ⟨X.P,X.T,X.ok,X.N,w0,A,F0,ks,io0⟩ body (qTs (fun s'=>s'.dfs=[]∧AllB s' (bs (k+1)))) s1)) (((St.of ts (bs k)).put (some p1) (.d (x1 k))).put (some p2) (.d (x2 k))))
    (hrest:∀D w0 F0 A io0,awpI none [{target:=.collected D,args:= #[]}] ⟨X.P,X.T,X.ok,X.N,w0,A,F0,ks,io0⟩ rest Q (St.of ts (bs N))):awpEB X (.block id (.rangeFunc g #[p1,p2] assign body)) rest Q (St.of ts (bs 0)):=by
  intro n io F a w hs
  have hdef:a.defers=[]:=hs.df
  have hgv:=hs.opd g
  rw [hg] at hgv
  simp only [VR,DR] at hgv
  obtain ⟨arr,hge,harl,hara⟩:=hgv
  refine wpIn_block (wpIn_rangeFunc ?_)
  intro fn hfn
  obtain ⟨rec,hrec⟩:∃rec:LoopState->Option Code->Loop,rec=fun st pe=>{state:=st,pending:=pe,fn,tmps:=a.tmps,params:= #[p1,p2],assign,body,defers:=w.heap.size}:=⟨_,rfl⟩
  obtain ⟨w1,hw1⟩:∃w1,(w.alloc (.deferred (some []))).alloc (.loop (rec .ready none))=w1:=⟨_,rfl⟩
  have hsz1:w1.heap.size=w.heap.size+2:=by rw [←hw1];simp [World.size_alloc]
  have hL1:w1.heap[w.heap.size+1]? =some (.loop (rec .ready none)):=by
    rw [←hw1];have:=World.alloc_heap_new (w.alloc (.deferred (some []))) (.loop (rec .ready none));rwa [World.size_alloc] at this
  have hD1:w1.heap[w.heap.size]? =some (.deferred (some [])):=by
    rw [←hw1];exact (Below.heap_alloc _ _ _ (by simp)).trans (World.alloc_heap_new w _)
  have hb1:Below w.heap.size w w1:=by
    rw [←hw1];exact ((Below.refl _ w).alloc (Nat.le_refl _) _).alloc (by simp) _
  have hs1:SR X io F (St.of ts (bs 0)) a w1:=hs.grow hb1 (fun _ h=>h) (fun _ h=>.inl h)
  obtain ⟨A0,hA0⟩:∃A0,OwnA (qAh (bs 0)) io=A0:=⟨_,rfl⟩
  have hownlt:∀b,A0 b->b<w.heap.size∧(X.A b∨X.w0.heap.size≤b)∧¬F b:=fun b hb=>by
    rw [←hA0] at hb
    obtain ⟨k,hk,e⟩:=hb
    obtain ⟨bl,hbl⟩:=Option.ne_none_iff_exists'.1 hk
    have:=(hs.bl k bl hbl).notF e
    exact ⟨this.2.2,this.2.1,this.1⟩
  have hLA:¬A0 (w.heap.size+1):=fun h=>by have:=(hownlt _ h).1;omega
  have hDA:¬A0 w.heap.size:=fun h=>by have:=(hownlt _ h).1;omega
  have hFlt:∀b,F b->b<w.heap.size:=fun b h=>(hs.ff b h).1
  have hkept1:Kept X.A X.w0 w1:=hs1.kept
  refine ⟨w.heap.size+1,[{target:=.collected w.heap.size,args:= #[]}],w1,{target:=.fn (.func gf) arr,args:= #[.func (.yield (w.heap.size+1)) #[] #[]]},w1,gf, #[.func (.yield (w.heap.size+1)) #[] #[]]++arr,w1,?_,?_,fun _ _=>trivial,?_,fun h=>by simp [Fence.wide] at h,?_⟩
  · rw [←hw1,hrec];exact run_enterLoop_outer _ _ _ _ _
  · simp only [resolve,hge]
    simp [go_sem]
  · simp only [invoke]
    simp [run_enter hit.enters]
  have hYs:∀k,k<N->YieldC X.P (w.heap.size+1) A0 F w1 io [.d (x1 k),.d (x2 k)] (bs k) (bs (k+1)):=by
    intro k hk io1 F1 w2 vs hkept hF1 hF1s hio hvsz hv hbs
    have hL2:w2.heap[w.heap.size+1]? =some (.loop (rec .ready none)):=(hkept.block _ (by omega) hLA).trans hL1
    have hA1:∀c,OwnA (qAh (bs k)) io1 c->A0 c:=fun c ⟨j,hj,e⟩=>by
      rw [←hA0]
      exact ⟨j,(hfam.has 0 j).2 ((hfam.has k j).1 hj),by rw [←hio j hj];exact e⟩
    have hsz2:w1.heap.size≤w2.heap.size:=hkept.size
    have hFL1:¬F1 (w.heap.size+1):=fun h=>by
      rcases (hF1s _ h).2 with h|h|h
      · have:=hFlt _ h;omega
      · omega
      · exact hLA h
    obtain ⟨v1,v2,rfl⟩:∃v1 v2,vs= #[v1,v2]:=by
      obtain ⟨l⟩:=vs
      simp at hvsz
      match l,hvsz with
      |[v1,v2],_=>exact ⟨v1,v2,rfl⟩
    simp only [List.map_cons,List.map_nil,VRT,VR] at hv
    obtain ⟨⟨u1,hu1,hd1⟩,⟨u2,hu2,hd2⟩,_⟩:=hv
    simp at hu1 hu2
    subst hu1 hu2
    have hst2:qN8 F w w2:=fun b hb=>(hkept.block b (by have:=hFlt b hb;omega) (fun h=>(hownlt b h).2.2 hb)).trans (hb1.block b (hFlt b hb))
    have hsh2:Shapes w w2:=(qD7 hb1).trans hkept.shape
    have hs2:=SR.again (ks:=ks) hs htr (bsk:=bs k) (fun j hj=>hfam.lnO ((hfam.has 0 j).1 hj) k) hst2 hsh2 hF1 (fun b hb=>(hF1s b hb).1) (fun j hj=>hio j ((hfam.has k j).2 ((hfam.has 0 j).1 hj))) hbs
    have hs2':=(hs2.put (dst:=some p1) (x:=.d (x1 k)) (v:=v1) (fun d e=>by cases e;exact hp1) (by simp only [VR];exact hd1)).put (dst:=some p2) (x:=.d (x2 k)) (v:=v2) (fun d e=>by cases e;exact hp2) (by simp only [VR];exact hd2)
    refine ⟨fn,((rec .ready none).params.zip #[v1,v2]).foldl (fun tmps (t,a)=>tmps.setIfInBounds t a) (rec .ready none).tmps,assign,body,?_,fun n'=>roundIn_of_wpIn trivial ?_⟩
    · have h0:=run_yield (P:=X.P) (args:= #[v1,v2]) hL2 (by rw [hrec];rfl)
      rw [show (rec .ready none).fn=fn from by rw [hrec],show (rec .ready none).assign=assign from by rw [hrec],show (rec .ready none).body=body from by rw [hrec]] at h0
      exact h0
    have hr1:=hround k hk (w.heap.size+1) w2 F1 (OwnA (qAh (bs k)) io1) io1 n' io1 F1 _ w2 hs2'
    have htm:(Act.put (Act.put {tmps:=a.tmps,defers:=[]} (some p1) v1) (some p2) v2)={tmps:=((rec .ready none).params.zip #[v1,v2]).foldl (fun tmps (t,a)=>tmps.setIfInBounds t a) (rec .ready none).tmps,defers:=[]}:=by
      rw [hrec];simp [Act.put]
    rw [htm] at hr1
    refine wpIn_mono hr1 fun e a3 w3 ⟨a30,ea,s3,io3,F3,hq3,hs3⟩=>?_
    have ea:a3=a30:=ea
    subst ea
    have en:e= .normal:=by cases e<;>first|rfl|exact hq3.elim
    subst en
    have hnA1:¬OwnA (qAh (bs k)) io1 (w.heap.size+1):=fun h=>hLA (hA1 _ h)
    have hL3:w3.heap[w.heap.size+1]? =some (.loop (rec .ready none)):=(hs3.kept.block _ (by show w.heap.size+1<w2.heap.size;omega) hnA1).trans hL2
    have hFL3:¬F3 (w.heap.size+1):=fun h=>by
      rcases (hs3.ff _ h).2 with h|h|h
      · exact hFL1 h
      · have h:w2.heap.size≤w.heap.size+1:=h;omega
      · exact hnA1 h
    refine ⟨_,run_beginRound hL3 (by rw [hrec]),?_⟩
    have ht4:=qL5 (r':={rec .ready none with state:=.busy}) hL3
    obtain ⟨w4,hw4⟩:∃w4,w3.putObj (w.heap.size+1) (.loop {rec .ready none with state:=.busy})=w4:=⟨_,rfl⟩
    have hL4:w4.heap[w.heap.size+1]? =some (.loop {rec .ready none with state:=.busy}):=by
      rw [←hw4];exact World.putObj_heap_same (qBl hL3)
    rw [hw4] at ht4 ⊢
    have hs4:=hs3.rebase ht4 hFL3
    have hnA3:¬OwnA s3.blk io3 (w.heap.size+1):=fun h=>by
      rcases hs3.ownIn h with h|h
      · exact hnA1 h
      · have h:w2.heap.size≤w.heap.size+1:=h;omega
    refine wpIn_mono (hq3 _ _ _ _ n' _ _ _ _ hs4) fun e a5 w5 ⟨a50,ea,s5,io5,F5,hq5,hs5⟩=>?_
    have en:e= .normal:=by cases e<;>first|rfl|exact hq5.elim
    subst en
    have hsz4:w4.heap.size=w3.heap.size:=ht4.size
    have hsz3:w2.heap.size≤w3.heap.size:=hs3.kept.size
    have hsz5:w4.heap.size≤w5.heap.size:=hs5.kept.size
    have hL5:w5.heap[w.heap.size+1]? =some (.loop {rec .ready none with state:=.busy}):=(hs5.kept.block _ (by show w.heap.size+1<w4.heap.size;omega) hnA3).trans hL4
    have hFL5:¬F5 (w.heap.size+1):=fun h=>by
      rcases (hs5.ff _ h).2 with h|h|h
      · exact hFL3 h
      · have h:w4.heap.size≤w.heap.size+1:=h;omega
      · exact hnA3 h
    have ht6:=qL5 (r':=rec .ready none) hL5
    have hend5:(Instr.endRound (w.heap.size+1) none).run X.P w5= .ok (.bool true) (w5.putObj (w.heap.size+1) (.loop (rec .ready none))):=by
      have h0:=run_endRound (P:=X.P) none hL5
      rw [hrec] at h0 ⊢
      exact h0
    refine ⟨_,_,hend5,rfl,io5,F5,?_,fun b hb=>hs5.f0 b (hs3.f0 b hb),fun b hb=>?_,fun j hj=>?_,?_⟩
    · refine ⟨?_,?_,?_,?_,fun b hb1' hb2=>?_,?_⟩
      · exact ht6.os.trans (hs5.kept.os.trans (ht4.os.trans hs3.kept.os))
      · exact ht6.tape.trans (hs5.kept.tape.trans (ht4.tape.trans hs3.kept.tape))
      · exact ht6.output.trans (hs5.kept.output.trans (ht4.output.trans hs3.kept.output))
      · rw [ht6.size];omega
      · by_cases e:b=w.heap.size+1
        · subst e
          rw [World.putObj_heap_same (qBl hL5),hL2]
        · rw [ht6.other b e]
          refine (hs5.kept.block b (by show b<w4.heap.size;omega) fun h=>?_).trans ((ht4.other b e).trans (hs3.kept.block b hb1' hb2))
          rcases hs3.ownIn h with h|h
          · exact hb2 h
          · have h:w2.heap.size≤b:=h;omega
      · exact ((hs3.kept.shape.trans ht4.shapes).trans hs5.kept.shape).trans ht6.shapes
    · obtain ⟨q1,q2⟩:=hs5.ff b hb
      refine ⟨by rw [ht6.size];exact q1,?_⟩
      rcases q2 with h|h|h
      · rcases (hs3.ff b h).2 with h|h|h
        · exact .inl h
        · exact .inr (.inl h)
        · exact .inr (.inr h)
      · have h:w4.heap.size≤b:=h
        exact .inr (.inl (by omega))
      · rcases hs3.ownIn h with h|h
        · exact .inr (.inr h)
        · exact .inr (.inl h)
    · have hjk:j∈ks:=(hfam.has k j).1 hj
      exact (hs5.st j hjk).trans (hs3.st j hjk)
    · refine BsR.turn ht6 hFL5 (BsR.area (fun c hc=>?_) (hs5.lent hq5.2 (hfam.cov (k+1))))
      rcases hc with h|h
      · exact hs3.ownIn h
      · have h:w4.heap.size≤c:=h
        exact .inr (by omega)
  have hcalls:=hit.run bs ks hfam (w.heap.size+1) io F w1 (#[.func (.yield (w.heap.size+1)) #[] #[]]++arr) (fun b h=>by have:=hFlt b h;omega) (by simp [harl];omega) (by
    simp only [DRT,DR]
    refine ⟨⟨.func (.yield (w.heap.size+1)) #[] #[],by rw [Array.getElem?_append_left (by simp)];rfl,rfl⟩,?_⟩
    rw [DRT_iff]
    intro i c hi
    obtain ⟨v,h1,_,h3⟩:=DRA_iff.1 hara i c hi
    refine ⟨v,?_,DR.mono (fun _ h=>h) (fun b h=>hb1.block b (hFlt b h)) _ _ h3⟩
    rw [Array.getElem?_append_right (by simp)]
    simpa using h1) (hs1.lendB (fun k b h=>h) (hfam.refs 0)) (by rw [hA0];exact hYs) (n-1)
  refine CallsIn.mono hcalls fun e w3 hpost=>?_
  obtain ⟨v,io',F',rfl,g1,g2,g3,g4,_,g6⟩:=hpost
  rw [hA0] at g1 g3 g6
  have hL3:w3.heap[w.heap.size+1]? =some (.loop (rec .ready none)):=(g1.block _ (by omega) hLA).trans hL1
  have hend:=run_endLoop (P:=X.P) hL3 (by rw [hrec];simp)
  have ht4:=qL5 (r':={rec .ready none with state:=.exhausted}) hL3
  obtain ⟨w4,hw4⟩:∃w4,w3.putObj (w.heap.size+1) (.loop {rec .ready none with state:=.exhausted})=w4:=⟨_,rfl⟩
  rw [hw4] at hend ht4
  rw [show (rec .ready none).pending=none from by rw [hrec]] at hend
  refine ⟨none,w4,hend,?_⟩
  have hFL3:¬F' (w.heap.size+1):=fun h=>by
    rcases (g3 _ h).2 with h|h|h
    · have:=hFlt _ h;omega
    · omega
    · exact hLA h
  have hFD:¬F' w.heap.size:=fun h=>by
    rcases (g3 _ h).2 with h|h|h
    · have:=hFlt _ h;omega
    · omega
    · exact hDA h
  have hsz3:w1.heap.size≤w3.heap.size:=g1.size
  have hst4:qN8 F w w4:=fun b hb=>(ht4.other b (by have:=hFlt b hb;omega)).trans ((g1.block b (by have:=hFlt b hb;omega) (fun h=>(hownlt b h).2.2 hb)).trans (hb1.block b (hFlt b hb)))
  have hsh4:Shapes w w4:=((qD7 hb1).trans g1.shape).trans ht4.shapes
  have hs4:=SR.again (ks:=ks) hs htr (bsk:=bs N) (fun j hj=>hfam.lnO ((hfam.has 0 j).1 hj) N) hst4 hsh4 g2 (fun b hb=>by rw [ht4.size];exact (g3 b hb).1) g4 (g6.turn ht4 hFL3)
  have hA1:∀c,OwnA (qAh (bs N)) io' c->A0 c:=fun c ⟨j,hj,e⟩=>by
    rw [←hA0]
    have h0:qAh (bs 0) j≠none:=(hfam.has 0 j).2 ((hfam.has N j).1 hj)
    exact ⟨j,h0,by rw [←g4 j h0];exact e⟩
  have hsz0:X.w0.heap.size≤w.heap.size:=hs.kept.size
  show Exit.inBlock id _ .normal _ w4
  simp only [Exit.inBlock,Exit.then]
  have hr:=hrest w.heap.size w4 F' (OwnA (qAh (bs N)) io') io' n io' F' _ w4 hs4
  have hact:(Act.mk' [{target:=.collected w.heap.size,args:= #[]}] {tmps:=a.tmps,defers:=[]})={a with defers:=[{target:=.collected w.heap.size,args:= #[]}]++a.defers}:=by rw [hdef]
  rw [hact] at hr
  refine wpIn_mono hr fun e a5 w5 ⟨a50,ea,s5,io5,F5,hq5,hs5⟩=>?_
  refine ⟨w.heap.size,a50,w4,OwnA (qAh (bs N)) io',F',ks,io',io5,F5,s5,ea,hq5,hs5,?_,fun b hb=>(hownlt b (hA1 b hb)).2.1,fun b hb=>g2 b (hs.f0 b hb),fun b hb=>?_,by rw [ht4.size];omega,?_,fun h=>hDA (hA1 _ h),hFD,hsz0⟩
  · refine ⟨ht4.os.trans (g1.os.trans (hb1.os.trans hs.kept.os)),ht4.tape.trans (g1.tape.trans (hb1.tape.trans hs.kept.tape)),ht4.output.trans (g1.output.trans (hb1.output.trans hs.kept.output)),by rw [ht4.size];omega,fun b e1 e2=>?_,hs.kept.shape.trans hsh4⟩
    refine (ht4.other b (by omega)).trans ((g1.block b (by omega) (fun h=>?_)).trans ((hb1.block b (by omega)).trans (hs.kept.block b e1 e2)))
    rcases (hownlt b h).2.1 with h|h
    · exact e2 h
    · omega
  · rcases (g3 b hb).2 with h|h|h
    · exact (hs.ff b h).2
    · exact .inr (.inl (by omega))
    · rcases (hownlt b h).2.1 with h|h
      · exact .inr (.inr h)
      · exact .inr (.inl h)
  · exact (ht4.other _ (by omega)).trans ((g1.block _ (by omega) hDA).trans hD1)
end
theorem turn_def{w:World}{D:Nat}{r r':Option (List Deferred)}(h:w.heap[D]? =some (.deferred r)):Turn D w (w.putObj D (.deferred r')):=
 ⟨fun b hb=>World.putObj_heap_other hb,by simp,fun arr ty fz e=>(by rw [h] at e;cases e),fun arr ty fz e=>(by rw [World.putObj_heap_same (qBl h)] at e;cases e),rfl,rfl,rfl⟩
theorem SR.lentIn{X:Ctx}{io:Nat->Option Nat}{F:Nat->Prop}{s:St}{a:Act}{w:World}(hs:SR X io F s a w){b:Nat}(h:Lent s io F b):b<w.heap.size∧(X.F0 b∨X.w0.heap.size≤b∨X.A b):=by
 rcases h with h|⟨k,hk,e⟩
 ·exact hs.ff b h
 ·obtain ⟨bl,hbl⟩:=Option.ne_none_iff_exists'.1 hk
  have:=(hs.bl k bl hbl).notF e
  refine ⟨this.2.2,?_⟩
  rcases this.2.1 with h|h
  ·exact .inr (.inr h)
  ·exact .inr (.inl h)
theorem nout{Q:Exit->St->Prop}(h:NoOut Q:=by
 repeat' (first|exact Go.Vw.NoOut.none|exact Go.Vw.nout_retB|exact Go.Vw.nout_ret|apply Go.Vw.NoOut.then|apply Go.Vw.NoOut.block)):NoOut Q:=h
section
variable {ro:Option Nat} {X:Ctx} {Q:Exit->St->Prop} {s:St}
theorem awpI_cut{id:Nat}(k:Nat){l:List Oper}(hQ:NoOut Q)(h:awpL X l.toArray (l.take k) (qTs (awpLI ro X l.toArray (l.drop k) Q)) s)(hd:noDef (l.take k)=true:=by rfl):awpI ro [] X (.region id l.toArray false) Q s:=by
 have:=awpI_parts (ro:=ro) (id:=id) (l.take k) (l.drop k) (by rw [List.take_append_drop];exact h) hd
 rwa [List.take_append_drop] at this
theorem awpI_regE{ex:Bool}{id:Nat}(n:Nat)(ks:List Nat){ops:List Oper}(hQ:NoOut Q)(hm:X.P.follows .mixedOrders=true)(hok:qS7 ex ops.toArray n=true)(hak:qB4 ops.toArray=ks)(hK:(ks.all fun k=> !(X.K.contains k))=true)(hd:noDef ops=true)(h:awpR ex X ops.toArray (ops.take n) (ops.drop n) Q (s.kills ks)):awpI ro [] X (.region id ops.toArray true) Q s:=by
 subst hak
 obtain ⟨s1,h1,h2⟩:=h
 exact awpI_any hm (qL4 n hok hK h1 h2) hQ hd
end
theorem ret_of_awpE{P:Program}{T:TypeId->Option TyD}(hT:qFz P T){f:FuncId}{fn:Func}{c:Code}(hf:P.funcs[f]? =some fn)(hname:(fn.name== "runtime.NumGoroutine")=false)(hb:fn.body=some c){ds:List D}(hn:ds.length≤fn.ntmps){R:D->Prop}
    (h:∀w0 F0,awpE ⟨P,T,hT,fn.ntmps,w0,fun _=>False,F0,[],fun _=>none⟩ c (qA5 T fn R) (St.init ds)):Ret P f ds R:=by
  refine ⟨⟨fn,hf,hname,by rw [hb];rfl⟩,fun F w vs hF hl hv=>?_⟩
  refine callsIn_wide.1 (callsIn_of_wp_marks (n:=0) hf hb trivial ?_)
  refine wpIn_mono (h w F 0 _ _ _ _ (sr_init hT hl hn hF hv)) fun e a' w' ⟨D,a0,w1,A1,F1,K1,io1,io',F',s',ea,hq,hs',hk1,hA1,hF1,hF1s,hD,hDh,hAD,hFD,hDw⟩=>?_
  have fin:(s'.dfs=[]∧∃m C r r',qM4 T m s' fn.results.toList=some (C,r)∧C∧LeD r r'∧R r')->LeavesInM Fence.wide 0 P fn a'.tmps (fun e w'=>∃v r F',e= .returned v∧R r∧Below w.heap.size w w'∧(∀b,F b->F' b)∧(∀b,F' b->F b∨(w.heap.size≤b∧b<w'.heap.size))∧DR F' w' r v) a'.defers .returning w':=fun ⟨hd,m,C,r,r',h1,h2,hle,h3⟩=>by
    have hDw1:w'.heap[D]? =some (.deferred (some [])):=(hs'.kept.block D hD hAD).trans hDh
    have hFD':¬F' D:=fun h=>by
      rcases (hs'.ff D h).2 with h|h|h
      · exact hFD h
      · have h:w1.heap.size≤D:=h;omega
      · exact hAD h
    have ht:=turn_def (r':=none) hDw1
    obtain ⟨w2,hw2⟩:∃w2,w'.putObj D (.deferred none)=w2:=⟨_,rfl⟩
    have htake:=run_takeDeferred (P:=P) hDw1
    rw [hw2] at ht htake
    have hs2:=hs'.rebase ht hFD'
    obtain ⟨v,hv,hd'⟩:=qQ1 hT hs2 fn h1 h2
    have hdf:=hs'.df
    rw [hd] at hdf
    have hdf:a0.defers=[]:=hdf
    have hsz1:w1.heap.size≤w'.heap.size:=hs'.kept.size
    rw [ea]
    show LeavesInM _ _ _ _ _ _ ([{target:=.collected D,args:= #[]}]++a0.defers) _ _
    rw [hdf]
    refine ⟨by simp,.inl ⟨D,w2,rfl,htake,?_⟩⟩
    refine ⟨v,hv,v,r',Lent s' io' F',rfl,h3,⟨?_,?_,?_,?_,fun k hk=>?_⟩,fun b hb=>.inl (hs'.f0 b (hF1 b hb)),fun b hb=>?_,hle _ _ _ hd'⟩
    · exact ht.os.trans (hs'.kept.os.trans hk1.os)
    · exact ht.tape.trans (hs'.kept.tape.trans hk1.tape)
    · exact ht.output.trans (hs'.kept.output.trans hk1.output)
    · rw [ht.size]
      have h1:w.heap.size≤w1.heap.size:=hk1.size
      omega
    · have h1:w.heap.size≤w1.heap.size:=hk1.size
      have h2:w.heap.size≤D:=hDw
      refine (ht.other k (by omega)).trans ((hs'.kept.block k (by show k<w1.heap.size;omega) fun h=>?_).trans (hk1.block k hk fun h=>h))
      rcases hA1 k h with h|h
      · exact h
      · have h:w.heap.size≤k:=h
        omega
    · obtain ⟨q1,q2⟩:=hs'.lentIn hb
      have h1:w.heap.size≤w1.heap.size:=hk1.size
      have q1':b<w2.heap.size:=by rw [ht.size];exact q1
      rcases q2 with h|h|h
      · rcases hF1s b h with h|h|h
        · exact .inl h
        · exact .inr ⟨h,q1'⟩
        · exact h.elim
      · have h:w1.heap.size≤b:=h
        exact .inr ⟨by omega,q1'⟩
      · rcases hA1 b h with h|h
        · exact h.elim
        · exact .inr ⟨h,q1'⟩
  cases e<;>simp only [qA5] at hq<;>first|exact hq.elim|exact fin hq
theorem vra_toD{io:Keys}{F:Nat->Prop}{w:World}{g:Nat->Option Value}:∀{ds:List D} {off:Nat},VRA io F w g off (ds.map V.d)->DRA F w g off ds
 |[],_,_=>by simp only [DRA]
 |x::xs,off,h=>by
  simp only [List.map_cons,VRA,VR] at h
  simp only [DRA]
  exact ⟨h.1,vra_toD h.2⟩
theorem Conv.box{X:Ctx}{s:St}(k:Nat){ty:TypeId}{cs:List D}(cs':List D)(hk:s.blk k=some (.box ty (cs.map V.d)))(hle:LeL cs cs'):Conv X s (s.withBlk k (.box ty (cs'.map V.d))):=fun io F a w hs=>by
 have hb:∀j,(s.withBlk k (.box ty (cs'.map V.d))).blk j=none↔s.blk j=none:=fun j=>by
  by_cases e:j=k
  ·subst e;rw [qAn,hk];simp
  ·rw [qCe e]
 have hln:(s.withBlk k (.box ty (cs'.map V.d))).ln=s.ln:=by
  funext j
  by_cases e:j=k
  ·subst e;rw [qFm qAn,qFm hk];rfl
  ·unfold St.ln;rw [qCe e]
 have hkeys:(s.withBlk k (.box ty (cs'.map V.d))).keys io=s.keys io:=by unfold St.keys;rw [hln]
 refine ⟨io,F,hs.kept,fun t=>by rw [hkeys];exact hs.tm t,hs.nt,by rw [hkeys];exact hs.df,fun j b hj=>?_,fun j j' b e1 e2=>hs.inj j j' b (fun h=>e1 ((hb j).2 h)) (fun h=>e2 ((hb j').2 h)),hs.ff,hs.f0,hs.st⟩
 rw [hkeys]
 by_cases e:j=k
 ·subst e
  rw [qAn] at hj
  cases hj
  have:=hs.bl j _ hk
  simp only [BR] at this ⊢
  obtain ⟨b,arr,g1,g2,g3,g4,g5⟩:=this
  exact ⟨b,arr,g1,g2,g3,g4,DRA.toV (hle.2 _ _ _ _ (vra_toD g5))⟩
 ·rw [qCe e] at hj
  exact hs.bl j b hj
theorem awpEB_conv{X:Ctx}{b rest:Code}{Q:Exit->St->Prop}{s s':St}(hc:Conv X s s')(h:awpEB X b rest Q s'):awpEB X b rest Q s:=fun n io F a w hs=>by
 obtain ⟨io',F',hs'⟩:=hc io F a w hs
 exact h n io' F' a w hs'
theorem qJy{X:Ctx}{c:Code}{Q:Exit->St->Prop}{s s':St}(hc:Conv X s s')(h:awp X c Q s'):awp X c Q s:=fun io F a w hs=>by
 obtain ⟨io',F',hs'⟩:=hc io F a w hs
 exact h io' F' a w hs'
theorem awpEB_slots{X:Ctx}{b rest:Code}{Q:Exit->St->Prop}{s:St}(ts:List (Nat×V))(bs:List (Nat×Blk))(ht:AllT s ts)(hb:AllB s bs)(h:awpEB X b rest Q (St.of ts bs))(hc:(qH9 bs ts&&qEd bs bs)=true:=by rfl):awpEB X b rest Q s:=fun n io F a w hs=>h n io F a w (hs.slots ht hb hc)
end Go.Vw
namespace Go.Proofs.YtejigedigmagdaaGreat
open Go.Vw
attribute [local irreducible] awp awpL awpR
theorem rv_r0:rv r0=0:=by decide+kernel
theorem ok_r0K:RatOk r0 10000000:=by
 have:=qAs (q:=0) (k:=10000000) ⟨by decide+kernel,by decide+kernel⟩
 rwa [show rq 0=r0 by decide+kernel] at this
theorem sign_num(q:Rat):q.num.sign=0↔q=0:=by
 rw [Int.sign_eq_zero_iff_zero];exact Rat.num_eq_zero
theorem cf_rv{l:List R3}{i:Nat}(h:i<l.length):cf (l.map rv) i=rv (l.getD i r0):=gRv h
theorem qGr(l:List R3)(hn:l.length≤1000)(hl:∀r∈l,RatOk r 10000000):RetB Tryz.prog 149 [.d (rsD l)] (qAh []) (qO (qAd (l.map rv)).length) (qAh [(500,qB (qAd (l.map rv)))]):=by
 obtain ⟨n,hN⟩:∃n,(qAd (l.map rv)).length=n:=⟨_,rfl⟩
 have hnl:n≤l.length:=by rw [←hN];exact Nat.le_trans (qAu _) (by simp)
 have ex:∀a,a≤l.length->(∀i,a≤i->i<l.length->cf (l.map rv) i=0)->(0<a->cf (l.map rv) (a-1)≠0)->a=n:=fun a h1 h2 h3=>by
  rw [←hN,qQs (n:=a) (by simpa using h1) (fun i h h'=>h2 i h (by simpa using h')) h3,List.length_take,List.length_map];omega
 have htr:qAd (l.map rv)=(l.map rv).take n:=by
  refine qQs (by simpa using hnl) (fun i h _=>?_) (fun h=>?_)
  ·rw [←qBi];exact qCr (by omega)
  ·rw [←qBi,←hN]
   have:=(qAl (l.map rv)).cf (by omega)
   exact this
 rw [hN,htr]
 refine qBa tab [] Tryz.func149 rfl rfl rfl (lblz rfl) rfl trivial (fun w0 F0 A io0=>?_)
 repeat' (first|refine qSw 2 tt ?_|refine wG ?_|refine wS ?_ ?_<;>intro _|refine wB ?_ ?_)
 refine qId ?_
 refine awp_meet1 (fun (_:Unit)=>([(0,.d (rsD l)),(3,.d (.int .i64 n))],[])) (fun _=>True) (fun _ _=>?_) ?_
 rotate_left
 ·repeat' (first|refine wG ?_|refine wS ?_ ?_<;>intro _|refine wB ?_ ?_)
  refine qAi (fun (a:Nat)=>([(0,.d (rsD l)),(3,.d (.int .i64 a))],[])) (fun a=>a≤l.length∧∀i,a≤i->i<l.length->cf (l.map rv) i=0) (fun a=>a) l.length ⟨Nat.le_refl _,fun i h1 h2=>by omega⟩ ⟨rfl,rfl,rfl⟩ trivial (fun a ha=>?_)
  obtain ⟨a1,a2⟩:=ha
  have ea:((a:Int)-1).toNat=a-1:=by omega
  have e2:=ex a a1 a2
  by_cases c:0<a
  ·have cm:=qNc (l.getD ((a:Int)-1).toNat r0) (by rw [ea];exact gMem (fun r hr=>(hl r hr).up (by decide)) (by omega))
   have hz:=sign_num (rv (l.getD ((a:Int)-1).toNat r0))
   rw [ea] at hz
   rw [cf_rv (by omega)] at e2
   have a3:rv (l.getD (a-1) r0)=0->∀i,a-1≤i->i<l.length->cf (l.map rv) i=0:=fun h i h1 h2=>by
    by_cases e:i=a-1
    ·rw [e,cf_rv (by omega)];exact h
    ·exact a2 i (by omega) h2
   rw [ea] at cm
   generalize (rv (l.getD (a-1) r0))=x at *
   generalize x.num.sign=z at *
   rw [←ea] at cm
   clear ex hl htr
   repeat' (first|refine wG ?_|refine wC cm ?_|refine wS ?_ ?_<;>intro _|refine wB ?_ ?_)
   ·exact ⟨a-1,⟨by omega,a3 (hz.1 ‹_›)⟩,by omega,⟨rfl,iv (by omega),rfl⟩,trivial⟩
   ·exact ⟨(),trivial,⟨rfl,iv (by rw [e2 fun _ h=> ‹¬_› (hz.2 h)]),rfl⟩,trivial⟩
  ·clear ex hl htr
   repeat' (first|refine wG ?_|refine wS ?_ ?_<;>intro _|refine wB ?_ ?_)
   exact ⟨(),trivial,⟨rfl,iv (by rw [e2 fun h=>absurd h c]),rfl⟩,trivial⟩
 ·clear ex
  repeat' (first|refine wG ?_|refine wS ?_ ?_<;>intro _|refine wB ?_ ?_)
  refine qB3 4 500 27 3 qC 0 rfl ?_
  refine qAi (fun (i:Nat)=>([(4,qO i),(24,.d (rsD (l.take n))),(25,.d (.int .i64 n)),(26,.d (.int .i64 i))],[(500,qB ((l.map rv).take i))])) (fun i=>i≤n) (fun i=>n-i) 0 (by omega) ⟨rfl,rfl,iv (by rw [List.length_take];omega),rfl,rfl⟩ ⟨rfl,trivial⟩ (fun i hi=>?_)
  have hlt:(l.take n).length=n:=by rw [List.length_take];omega
  have hlq:((l.map rv).take i).length=i:=by rw [List.length_take,List.length_map];omega
  by_cases h3:i<n
  ·have e1:(l.take n).getD i r0=l.getD i r0:=by simp [List.getD_eq_getElem?_getD,h3]
   have g1:=gMem hl (show i<l.length by omega)
   have ad:=qC2 ((l.take n).getD i r0) r0 (by rw [e1];exact g1.up (by decide)) (ok_r0K.up (by decide))
   rw [rv_r0,Rat.add_zero] at ad
   have et:(l.map rv).take i++[rv ((l.take n).getD i r0)]=(l.map rv).take (i+1):=by
    rw [e1,List.take_add_one,List.getElem?_map,List.getD_eq_getElem?_getD,List.getElem?_eq_getElem (show i<l.length by omega)];rfl
   generalize rv ((l.take n).getD i r0)=x at *
   clear hl htr g1 e1
   repeat' (first|refine wG ?_|refine wC ad ?_|refine wS ?_ ?_<;>intro _|refine wB ?_ ?_)
   exact ⟨i+1,by omega,by omega,⟨qEn (by rw [List.length_append,hlq];rfl),rfl,rfl,iv (by omega),rfl⟩,qBr et,trivial⟩
  ·have e:i=n:=by omega
   subst e
   clear hl htr
   repeat' (first|refine wG ?_|refine wS ?_ ?_<;>intro _|refine wB ?_ ?_)
   all_goals first|exact leVT|exact ⟨rfl,trivial⟩
theorem qBb(l:List R3)(hn:l.length≤1000)(hl:∀r∈l,RatOk r 10000000):Ret Tryz.prog 149 [rsD l] (·=qsD (qAd (l.map rv))):=
 (qGr l hn hl).toRet (ds:=[rsD l]) true rfl rfl
theorem qOm(l:List R3)(hn:l.length≤1000)(hl:∀r∈l,RatOk r 10000000):Ret Tryz.prog 152 [rsD l] (·= .int .i64 (((qAd (l.map rv)).length:Int)-1)):=by
 have ht:=qBb l hn hl
 have hk:=Nat.le_trans (qAu (l.map rv)) (by rw [List.length_map];exact hn)
 generalize qAd (l.map rv)=p at *
 clear hl
 refine qAa tab Tryz.func152 rfl rfl (lblz rfl) (fun w0 F0=>?_)
 repeat' (first|refine wG ?_|refine wC ht ?_|refine wS ?_ ?_<;>intro _|refine finG ?_)
 rfl
theorem qUv(l:List R3)(i:Nat)(hl:l.length≤1000)(hi:i≤2000):Ret Tryz.prog 183 [rsD l,.int .i64 i] (·=rD (l.getD i r0)):=by
 by_cases h:i<l.length
 ·refine qAa tab Tryz.func183 rfl rfl (lblz rfl) (fun w0 F0=>?_)
  repeat' (first|refine wG ?_|refine wS ?_ ?_<;>intro _|refine finG ?_)
  rfl
 ·rw [show l.getD i r0=r0 by rw [List.getD_eq_getElem?_getD,List.getElem?_eq_none (by omega)];rfl]
  refine qAa tab Tryz.func183 rfl rfl (lblz rfl) (fun w0 F0=>?_)
  repeat' (first|refine wG ?_|refine wS ?_ ?_<;>intro _|(show qA5 _ _ _ _ _;first|refine finF true rfl rfl sc ?_|refine finF false rfl rfl sc ?_|refine finC false rfl rfl sc sc ?_|refine finN rfl rfl sc ?_|refine finL true rfl rfl sc rfl (LeR.cons rfl leL LeR.nil) ?_|refine finA true rfl rfl sc ?_|refine finA false rfl rfl sc ?_|refine finE true rfl rfl sc ?_|refine finE false rfl rfl sc ?_))
  exact leL
def outL(g:Nat->Rat)(m i:Nat):List R3:=(List.range i).map (fun j=>rq (g j))++List.replicate (m-i) r0
theorem outL_len{g:Nat->Rat}{m i:Nat}(h:i≤m):(outL g m i).length=m:=by unfold outL;simp;omega
theorem outL_set{g:Nat->Rat}{m i:Nat}(h:i<m):(outL g m i).set i (rq (g i))=outL g m (i+1):=by
 unfold outL
 rw [List.set_append_right _ _ (by simp),show m-i=(m-(i+1))+1 by omega,List.replicate_succ,List.length_map,List.length_range,Nat.sub_self,List.set_cons_zero,List.range_succ,List.map_append,List.append_assoc]
 rfl
theorem outL_rv{g:Nat->Rat}{m:Nat}:(outL g m m).map rv=(List.range m).map g:=by
 unfold outL
 rw [Nat.sub_self,List.replicate_zero,List.append_nil,List.map_map]
 exact List.map_congr_left fun j _=>qAw _
theorem outL_ok{g:Nat->Rat}{m k:Nat}(h:∀i,i<m->okQ k (g i)):∀r∈outL g m m,RatOk r k:=by
 unfold outL
 rw [Nat.sub_self,List.replicate_zero,List.append_nil]
 intro r hr
 obtain ⟨j,hj,rfl⟩:=List.mem_map.1 hr
 exact qAs (h j (List.mem_range.1 hj))
theorem qH3(fid:FuncId)(g:Nat->Rat)(p q:List R3)(hp:p.length≤500)(hq:q.length≤500)(hf:∀i,i<max p.length q.length->Ret Tryz.prog fid [rD (p.getD i r0),rD (q.getD i r0)] (·=qD (g i)))(ho:∀i,i<max p.length q.length->okQ 10000000 (g i)):Ret Tryz.prog 150 [rsD p,rsD q,.fn fid []] (·=qsD (qAd ((List.range (max p.length q.length)).map g))):=by
 obtain ⟨m,hm⟩:∃m,max p.length q.length=m:=⟨_,rfl⟩
 rw [hm] at hf ho ⊢
 have hm2:m≤500:=by omega
 have hmz:(max (p.length:Int) (q.length:Int)).toNat=m:=by omega
 refine qAa tab Tryz.func150 rfl rfl (lblz rfl) (fun w0 F0=>?_)
 repeat' (first|refine wG ?_|refine stepMake (mm:=true) (en:=rC) (z:=r0) tt rfl rfl rfl rfl rfl rfl rfl rfl rfl rfl rfl rfl leL sc sc ?_|refine stepMake (mm:=false) (en:=rC) (z:=r0) tt rfl rfl rfl rfl rfl rfl rfl rfl rfl rfl rfl rfl leL sc sc ?_|refine wS ?_ ?_<;>intro _|refine finG ?_)
 refine qAi (fun (i:Nat)=>([(0,.d (rsD p)),(1,.d (rsD q)),(2,.d (.fn fid [])),(7,.own 15 0 m 27 3),(8,.d (.fn 183 [])),(17,.d (.int .i64 m)),(18,.d (.int .i64 i))],[(15,.data 27 3 rC r0 (outL g m i))])) (fun i=>i≤m) (fun i=>m-i) 0 (by omega) ⟨rfl,rfl,rfl,qEn hmz,rfl,iv (by omega),rfl,rfl⟩ ⟨qBr (by rw [hmz];unfold outL;simp),trivial⟩ (fun i hi=>?_)
 have hol:=outL_len (g:=g) hi
 by_cases h3:i<m
 ·have c1:=qUv p i (by omega) (by omega)
  have c2:=qUv q i (by omega) (by omega)
  have c3:=hf i h3
  have es:=outL_set (g:=g) h3
  generalize outL g m i=L at *
  generalize g i=y at *
  clear hf ho
  repeat' (first|refine wG ?_|refine wC c1 ?_|refine wC c2 ?_|refine wC c3 ?_|refine wS ?_ ?_<;>intro _|refine finG ?_)
  exact ⟨i+1,by omega,by omega,⟨rfl,rfl,rfl,rfl,rfl,rfl,rfl,rfl⟩,qBr es,trivial⟩
 ·have e:i=m:=by omega
  subst e
  have ht:=qBb (outL g i i) (by omega) (outL_ok ho)
  rw [outL_rv] at ht
  generalize outL g i i=L at *
  generalize (List.range i).map g=R at *
  clear hf ho
  repeat' (first|refine wG ?_|refine wC ht ?_|refine wS ?_ ?_<;>intro _|refine finG ?_)
  rfl
theorem qB1(v:Int)(h1: -9223372036854775808≤v)(h2:v<9223372036854775808):Ret Tryz.prog 52 [.int .i64 v] (·=qD (v:Rat)):=by
 have:=qPx v h1 h2
 rw [←rq_int] at this
 exact this
theorem qEc(x:R3)(h:RatOk x 10000000):Ret Tryz.prog 137 [rD x] (·=qD (rv x)):=by
 have a:=qC2 x r0 h (ok_r0 (by decide))
 rw [rv_r0,Rat.add_zero] at a
 refine qAa tab Tryz.func137 rfl rfl (lblz rfl) (fun w0 F0=>?_)
 repeat' (first|refine wG ?_|refine wC a ?_|refine wS ?_ ?_<;>intro _|refine finG ?_)
 rfl
theorem qJ7(x:Rat)(h:okQ 10000000 x):Ret Tryz.prog 137 [qD x] (·=qD x):=by
 have:=qEc (rq x) (qAs h)
 rw [qAw] at this
 exact this
theorem qEt(a b:R3)(ha:RatOk a 500000)(hb:RatOk b 500000):Ret Tryz.prog 87 [iD a b] (·=iQ (qD1 (rv a) (rv b))):=by
 have h1:=qEc a (ha.up (by decide))
 have h2:=qEc b (hb.up (by decide))
 have hc:=qBk (rv a) (rv b) ((qAx ha (by decide)).mono (by decide)) ((qAx hb (by decide)).mono (by decide))
 have hp:=qN1 (rv a) (rv b)
 generalize rv a=x at *
 generalize rv b=y at *
 obtain ⟨c,hcc⟩:∃c,cmpQ x y=c:=⟨_,rfl⟩
 rw [hcc] at hc hp
 unfold qD1
 by_cases h:y<x
 ·have hk:=hp.2 h
  clear hp
  rw [if_pos h]
  unfold iQ
  rw [qQ0]
  refine qAa tab Tryz.func87 rfl rfl (lblz rfl) (fun w0 F0=>?_)
  repeat' (first|refine wG ?_|refine wC h1 ?_|refine wC h2 ?_|refine wC hc ?_|refine rg 1 5 ?_|refine wS ?_ ?_<;>intro _|(show qA5 _ _ _ _ _;first|refine finF true rfl rfl sc ?_|refine finF false rfl rfl sc ?_|refine finC false rfl rfl sc sc ?_|refine finN rfl rfl sc ?_|refine finL true rfl rfl sc rfl (LeR.cons rfl leL LeR.nil) ?_|refine finA true rfl rfl sc ?_|refine finA false rfl rfl sc ?_|refine finE true rfl rfl sc ?_|refine finE false rfl rfl sc ?_))
  exact leL
 ·have hk:=mt hp.1 h
  clear hp
  rw [if_neg h]
  refine qAa tab Tryz.func87 rfl rfl (lblz rfl) (fun w0 F0=>?_)
  repeat' (first|refine wG ?_|refine wC h1 ?_|refine wC h2 ?_|refine wC hc ?_|refine rg 1 5 ?_|refine wS ?_ ?_<;>intro _|refine finG ?_)
  rfl
theorem interval_Make(a b:R3)(ha:RatOk a 500000)(hb:RatOk b 500000):Ret Tryz.prog 100 [rD a,rD b] (·=if rv b<rv a then .tup [iD r0 r0,.int .i64 1] else .tup [iQ (rv a,rv b),.int .i64 0]):=by
 have h1:=qEc a (ha.up (by decide))
 have h2:=qEc b (hb.up (by decide))
 have hc:=qDu a b (ha.up (by decide)) (hb.up (by decide))
 have hp:=qN1 (rv a) (rv b)
 obtain ⟨c,hcc⟩:∃c,cmpQ (rv a) (rv b)=c:=⟨_,rfl⟩
 rw [hcc] at hc hp
 by_cases h:rv b<rv a
 ·have hk:=hp.2 h
  clear hp
  rw [if_pos h]
  refine qAa tab Tryz.func100 rfl rfl (lblz rfl) (fun w0 F0=>?_)
  repeat' (first|refine wG ?_|refine wC hc ?_|refine rg 3 3 ?_|refine wS ?_ ?_<;>intro _|refine qFx ?_)
  exact leT
 ·have hk:=mt hp.1 h
  clear hp
  rw [if_neg h]
  refine qAa tab Tryz.func100 rfl rfl (lblz rfl) (fun w0 F0=>?_)
  repeat' (first|refine wG ?_|refine wC h1 ?_|refine wC h2 ?_|refine wC hc ?_|refine rg 3 3 ?_|refine wS ?_ ?_<;>intro _|refine finG ?_)
  rfl
theorem qOv(a b v:R3)(ha:RatOk a 500000)(hb:RatOk b 500000)(hv:RatOk v 500000):Ret Tryz.prog 59 [iD a b,rD v] (·= .bool (qBo (qD1 (rv a) (rv b)) (rv v))):=by
 have t1:=qEt a b ha hb
 have o1:=qGc (qAx ha (by decide)) (qAx hb (by decide)) (by decide)
 generalize qD1 (rv a) (rv b)=i at *
 obtain ⟨p,q⟩:=i
 obtain ⟨op,oq⟩:=o1
 have h1:=qDu (rq p) v (qAs (op.mono (by decide))) (hv.up (by decide))
 have h2:=qDu v (rq q) (hv.up (by decide)) (qAs (oq.mono (by decide)))
 rw [qAw] at h1 h2
 have p1:=qN1 p (rv v)
 have p2:=qN1 (rv v) q
 obtain ⟨c,hc⟩:∃c,cmpQ p (rv v)=c:=⟨_,rfl⟩
 obtain ⟨d,hd⟩:∃d,cmpQ (rv v) q=d:=⟨_,rfl⟩
 rw [hc] at h1 p1
 rw [hd] at h2 p2
 unfold qBo
 simp only
 rw [show decide (p≤rv v)=decide (c≤0) by refine decide_eq_decide.2 ?_;rw [←Rat.not_lt,←Int.not_lt,p1],show decide (rv v≤q)=decide (d≤0) by refine decide_eq_decide.2 ?_;rw [←Rat.not_lt,←Int.not_lt,p2]]
 clear hc hd p1 p2
 refine qAa tab Tryz.func59 rfl rfl (lblz rfl) (fun w0 F0=>?_)
 repeat' (first|refine wG ?_|refine wC t1 ?_|refine wC h1 ?_|refine wC h2 ?_|refine wS ?_ ?_<;>intro _|refine finG ?_)
 all_goals first|rfl|(rename_i hc;simp [hc])
theorem qNs(i:I2)(hle:i.1≤i.2)(hi:okI 500000 i)(v:R3)(hv:RatOk v 500000):Ret Tryz.prog 59 [iQ i,rD v] (·= .bool (qBo i (rv v))):=by
 have:=qOv (rq i.1) (rq i.2) v (qAs hi.1) (qAs hi.2) hv
 rw [qAw,qAw,qGx hle] at this
 exact this
theorem leQR(l:List Rat):LeD (qsD l) (rsD (l.map rq)):=LeD.sl (by simp) fun i a b ha hb=>by
 simp only [List.getElem?_map] at hb
 rw [ha] at hb
 simp only [Option.map_some,Option.some.injEq] at hb
 subst hb
 exact ⟨rfl,LeL.refl _⟩
theorem leRQ(l:List Rat):LeD (rsD (l.map rq)) (qsD l):=LeD.sl (by simp) fun i a b ha hb=>by
 simp only [List.getElem?_map] at ha
 rw [hb] at ha
 simp only [Option.map_some,Option.some.injEq] at ha
 subst ha
 exact ⟨rfl,LeL.refl _⟩
theorem Ret.le{P:Program}{f:FuncId}{ds:List D}{d d':D}(h:Ret P f ds (·=d))(e:LeD d d'):Ret P f ds (·=d'):=⟨h.enters,fun F w vs a b c=>(h.run F w vs a b c).mono fun _ _ ⟨v,r,F',e1,e2,e3,e4,e5,e6⟩=>⟨v,d',F',e1,rfl,e3,e4,e5,e _ _ _ (e2▸e6)⟩⟩
theorem qPs(p:List R3)(i:Nat):rv (p.getD i r0)=cf (p.map rv) i:=by
 unfold cf
 by_cases h:i<p.length
 ·simp [List.getD_eq_getElem?_getD,List.getElem?_eq_getElem h]
 ·simp only [List.getD_eq_getElem?_getD,List.getElem?_map,List.getElem?_eq_none (show p.length≤i by omega),Option.getD_none,Option.map_none]
  exact rv_r0
theorem qAf(l:List Rat):(l.map rq).map rv=l:=by
 rw [List.map_map]
 exact (List.map_congr_left (fun q _=>qAw q)).trans (List.map_id l)
theorem qQk(g:Nat->Rat)(m i:Nat):cf ((List.range m).map g) i=if i<m then g i else 0:=by
 unfold cf
 split
 ·rename_i h;simp [List.getD_eq_getElem?_getD,h]
 ·rename_i h;simp [List.getD_eq_getElem?_getD,h]
theorem qC5{p:List R3}{k:Nat}(h:∀r∈p,RatOk r k)(hk:1<k)(i:Nat):RatOk (p.getD i r0) k:=by
 by_cases hi:i<p.length
 ·exact gMem h hi
 ·rw [List.getD_eq_getElem?_getD,List.getElem?_eq_none (by omega)]
  have:=qAs (qB9 hk)
  rwa [show rq 0=r0 by decide+kernel] at this
theorem qS6(p q:List R3)(hp:p.length≤500)(hq:q.length≤500)(kp:∀r∈p,RatOk r 5000000)(kq:∀r∈q,RatOk r 5000000):Ret Tryz.prog 104 [rsD p,rsD q] (·=qsD (qAd (addC (p.map rv) (q.map rv)))):=by
 have hc:=qH3 44 (fun i=>rv (p.getD i r0)+rv (q.getD i r0)) p q hp hq (fun i _=>qC2 _ _ ((qC5 kp (by decide) i).up (by decide)) ((qC5 kq (by decide) i).up (by decide))) (fun i _=>(qAx (qC5 kp (by decide) i) (by decide)).add (qAx (qC5 kq (by decide) i) (by decide)))
 have e:qAd ((List.range (max p.length q.length)).map fun i=>rv (p.getD i r0)+rv (q.getD i r0))=qAd (addC (p.map rv) (q.map rv)):=qEg fun i=>by
  rw [qQk,qBg,qPs,qPs]
  split
  ·rfl
  ·rw [qCr (by rw [List.length_map];omega),qCr (by rw [List.length_map];omega)];grind
 rw [e] at hc
 generalize qAd (addC (p.map rv) (q.map rv))=r at *
 clear kp kq e
 refine qAa tab Tryz.func104 rfl rfl (lblz rfl) (fun w0 F0=>?_)
 repeat' (first|refine wG ?_|refine wC hc ?_|refine wS ?_ ?_<;>intro _|refine finG ?_)
 rfl
theorem qLx(p q:List R3)(hp:p.length≤500)(hq:q.length≤500)(kp:∀r∈p,RatOk r 5000000)(kq:∀r∈q,RatOk r 5000000):Ret Tryz.prog 102 [rsD p,rsD q] (·=qsD (qAd (subC (p.map rv) (q.map rv)))):=by
 have hc:=qH3 43 (fun i=>rv (p.getD i r0)-rv (q.getD i r0)) p q hp hq (fun i _=>qKm _ _ ((qC5 kp (by decide) i).up (by decide)) ((qC5 kq (by decide) i).up (by decide))) (fun i _=>(qAx (qC5 kp (by decide) i) (by decide)).sub (qAx (qC5 kq (by decide) i) (by decide)))
 have e:qAd ((List.range (max p.length q.length)).map fun i=>rv (p.getD i r0)-rv (q.getD i r0))=qAd (subC (p.map rv) (q.map rv)):=qEg fun i=>by
  rw [qQk,qJ9,qPs,qPs]
  split
  ·rfl
  ·rw [qCr (by rw [List.length_map];omega),qCr (by rw [List.length_map];omega)];grind
 rw [e] at hc
 generalize qAd (subC (p.map rv) (q.map rv))=r at *
 clear kp kq e
 refine qAa tab Tryz.func102 rfl rfl (lblz rfl) (fun w0 F0=>?_)
 repeat' (first|refine wG ?_|refine wC hc ?_|refine wS ?_ ?_<;>intro _|refine finG ?_)
 rfl
theorem smul_getD(c:Rat)(p:List R3)(g:Nat->Rat)(h:∀i,g i=c*rv (p.getD i r0)):(List.range p.length).map g=smul c (p.map rv):=by
 refine List.ext_getElem (by simp [smul]) fun i h1 h2=>?_
 simp only [List.length_map,List.length_range] at h1
 simp only [List.getElem_map,List.getElem_range,smul,h,List.getD_eq_getElem?_getD,List.getElem?_eq_getElem h1,Option.getD_some]
theorem qOl(p:List R3)(y:R3)(hp:p.length≤500)(kp:∀r∈p,RatOk r 5000000)(ky:RatOk y 5000000)(h0:rv y≠0):Ret Tryz.prog 205 [rsD p,rD y] (·=qsD (smul (1/rv y) (p.map rv))):=by
 obtain ⟨m,hm⟩:∃m,p.length=m:=⟨_,rfl⟩
 obtain ⟨g,hg⟩:∃g:Nat->Rat,∀i,g i=rv (p.getD i r0)/rv y:=⟨fun i=>rv (p.getD i r0)/rv y,fun _=>rfl⟩
 have he:=smul_getD (1/rv y) p g (fun i=>by rw [hg,Rat.div_def,Rat.div_def,Rat.one_mul,Rat.mul_comm])
 rw [hm] at he
 rw [←he]
 clear he
 refine Ret.le ?_ (leRQ _)
 refine qAa tab Tryz.func205 rfl rfl (lblz rfl) (fun w0 F0=>?_)
 repeat' (first|refine wG ?_|refine stepMake (mm:=true) (en:=rC) (z:=r0) tt rfl rfl rfl rfl rfl rfl rfl rfl rfl rfl rfl rfl leL sc sc ?_|refine stepMake (mm:=false) (en:=rC) (z:=r0) tt rfl rfl rfl rfl rfl rfl rfl rfl rfl rfl rfl rfl leL sc sc ?_|refine wS ?_ ?_<;>intro _|refine finG ?_)
 refine qAi (fun (i:Nat)=>([(3,.ptr 3 0),(5,.own 10 0 m 27 3),(11,.d (rsD p)),(12,.d (.int .i64 m)),(13,.d (.int .i64 i))],[(3,.box 27 ((rC y).map V.d)),(10,.data 27 3 rC r0 (outL g m i))])) (fun i=>i≤m) (fun i=>m-i) 0 (by omega) ⟨rfl,qEn hm,rfl,iv (by omega),rfl,rfl⟩ ⟨rfl,qBr (by rw [hm];unfold outL;simp),trivial⟩ (fun i hi=>?_)
 have hol:=outL_len (g:=g) hi
 by_cases h3:i<m
 ·have d1:=qKn (p.getD i r0) y ((qC5 kp (by decide) i).up (by decide)) (ky.up (by decide))
  rw [if_neg h0,←hg i] at d1
  have es:=outL_set (g:=g) h3
  generalize outL g m i=L at *
  generalize g i=x at *
  clear hg kp ky
  repeat' (first|refine wG ?_|refine wC d1 ?_|refine wS ?_ ?_<;>intro _|refine finG ?_)
  exact ⟨i+1,by omega,by omega,⟨rfl,rfl,rfl,rfl,rfl,rfl⟩,rfl,qBr es,trivial⟩
 ·have e:i=m:=by omega
  subst e
  have eo:outL g i i=((List.range i).map g).map rq:=by unfold outL;rw [Nat.sub_self,List.replicate_zero,List.append_nil,List.map_map];rfl
  have hl:((List.range i).map g).length=i:=by simp
  rw [eo] at hol ⊢
  generalize (List.range i).map g=R at *
  clear hg kp ky
  repeat' (first|refine wG ?_|refine wS ?_ ?_<;>intro _|refine finG ?_)
  rfl
theorem okQ_nat{n:Nat}(h:n≤1000):okQ 3 ((n:Int):Rat):=okQ_natI (by rcases Nat.eq_zero_or_pos n with e|e
                                                                   · subst e;rw [qAk];decide
                                                                   · rw [qCp (by show n<4294967296;omega) (by omega)];simp) (by decide)
theorem der_take{p:List Rat}{i:Nat}(h:i+1<p.length):(derC p).take i++[((((i+1:Nat):Int)):Rat)*p.getD (i+1) 0]=(derC p).take (i+1):=by
 have hl:=qH8 p
 rw [List.take_add_one,List.getElem?_eq_getElem (show i<(derC p).length by omega)]
 have e:=qGo p i
 rw [qN4 (by omega)] at e
 rw [e]
 rfl
theorem qGj(p:List R3)(hp:p.length≤500)(kp:∀r∈p,RatOk r 5000000):Ret Tryz.prog 185 [rsD p] (·=qsD (derP (p.map rv))):=by
 obtain ⟨m,hm⟩:∃m,p.length=m:=⟨_,rfl⟩
 have hdl:=qH8 (p.map rv)
 rw [List.length_map,hm] at hdl
 have hok:∀q∈derC (p.map rv),okQ 5000003 q:=fun q hq=>by
  obtain ⟨i,hi,rfl⟩:=List.getElem_of_mem hq
  have e:=qGo (p.map rv) i
  rw [qN4 hi] at e
  rw [e,←qPs]
  exact ((okQ_nat (n:=i+1) (by omega)).mul (qAx (qC5 kp (by decide) (i+1)) (by decide))).mono (by decide)
 have ht:=qBb ((derC (p.map rv)).map rq) (by rw [List.length_map];omega) (fun r hr=>by
  obtain ⟨q,hq,rfl⟩:=List.mem_map.1 hr
  exact qAs ((hok q hq).mono (by decide)))
 rw [qAf] at ht
 have ht2:Ret Tryz.prog 149 [qsD (derC (p.map rv))] (·=qsD (derP (p.map rv))):=ht.args (LeT.cons (leQR _) (LeT.refl _))
 clear ht hok
 generalize derP (p.map rv)=R at *
 refine qAa tab Tryz.func185 rfl rfl (lblz rfl) (fun w0 F0=>?_)
 repeat' (first|refine wG ?_|refine rg 6 6 ?_|refine wS ?_ ?_<;>intro _|refine finG ?_)
 refine qB3 3 500 27 3 qC 0 rfl ?_
 refine qAi (fun (i:Nat)=>([(3,qO (i-1)),(6,.d (rsD p)),(7,.d (.int .i64 m)),(8,.d (.int .i64 i))],[(500,qB ((derC (p.map rv)).take (i-1)))])) (fun i=>i≤m) (fun i=>m-i) 0 (by omega) ⟨rfl,rfl,iv (by omega),rfl,rfl⟩ ⟨rfl,trivial⟩ (fun i hi=>?_)
 by_cases h3:i<m
 ·by_cases h0:0<i
  ·have f1:=qB1 (i:Int) (by omega) (by omega)
   have m1:=qGg (rq ((i:Int):Rat)) (p.getD i r0) (qAs ((okQ_nat (n:=i) (by omega)).mono (by decide))) ((qC5 kp (by decide) i).up (by decide))
   rw [qAw] at m1
   have et:=der_take (p:=p.map rv) (i:=i-1) (by rw [List.length_map];omega)
   rw [show i-1+1=i by omega,gRv (by omega)] at et
   have hlq:((derC (p.map rv)).take (i-1)).length=i-1:=by rw [List.length_take];omega
   generalize (derC (p.map rv)).take (i-1)=A at *
   obtain ⟨B,hB⟩:∃B,(derC (p.map rv)).take i=B:=⟨_,rfl⟩
   rw [hB] at et
   generalize ((i:Int):Rat)*rv (p.getD i r0)=x at *
   generalize ((i:Int):Rat)=y at *
   clear kp
   repeat' (first|refine wG ?_|refine wC f1 ?_|refine wC m1 ?_|refine rg 6 6 ?_|refine wS ?_ ?_<;>intro _|refine finG ?_)
   exact ⟨i+1,by omega,by omega,⟨qEn (by rw [List.length_append,hlq];show i-1+1=i+1-1;omega),rfl,rfl,iv (by omega),rfl⟩,qBr (et.trans (by rw [←hB];rfl)),trivial⟩
  ·have e:i=0:=by omega
   subst e
   clear kp
   repeat' (first|refine wG ?_|refine rg 6 6 ?_|refine wS ?_ ?_<;>intro _|refine finG ?_)
   exact ⟨1,by omega,by omega,⟨rfl,rfl,rfl,iv (by omega),rfl⟩,rfl,trivial⟩
 ·have e:i=m:=by omega
  subst e
  rw [List.take_of_length_le (show (derC (p.map rv)).length≤i-1 by omega)]
  generalize derC (p.map rv)=A at *
  clear kp
  repeat' (first|refine wG ?_|refine wC ht2 ?_|refine rg 6 6 ?_|refine wS ?_ ?_<;>intro _|refine finG ?_)
  rfl
def rqL(m:Nat)(v:Nat->Rat):List R3:=(List.range m).map fun k=>rq (v k)
theorem qMb(m:Nat)(v:Nat->Rat):(rqL m v).length=m:=by simp [rqL]
theorem qP9{m:Nat}{v:Nat->Rat}{k:Nat}(h:k<m):(rqL m v).getD k r0=rq (v k):=by
 simp [rqL,List.getD_eq_getElem?_getD,h]
theorem rqL_set{m:Nat}{v v':Nat->Rat}{k:Nat}{x:Rat}(h1:x=v' k)(h2:∀j,j≠k->v' j=v j):(rqL m v).set k (rq x)=rqL m v':=by
 refine List.ext_getElem (by simp [rqL]) fun j g1 g2=>?_
 simp only [rqL,List.getElem_set,List.getElem_map,List.getElem_range]
 split
 ·rename_i e;subst e;rw [h1]
 ·rename_i e;rw [h2 j (fun h=>e h.symm)]
theorem rqL_congr{m:Nat}{v v':Nat->Rat}(h:∀k,v k=v' k):rqL m v=rqL m v':=by rw [show v=v' from funext h]
theorem qVi(m:Nat){v:Nat->Rat}(h:∀k,v k=0):List.replicate m r0=rqL m v:=by
 refine List.ext_getElem (by simp [rqL]) fun j g1 g2=>?_
 simp only [rqL,List.getElem_replicate,List.getElem_map,h]
 decide+kernel
theorem rqL_qs(m:Nat)(v:Nat->Rat):rqL m v=((List.range m).map v).map rq:=by simp [rqL]
theorem rqL_rv(m:Nat)(v:Nat->Rat):(rqL m v).map rv=(List.range m).map v:=by rw [rqL_qs,qAf]
theorem rqL_ok{m:Nat}{v:Nat->Rat}{K:Nat}(h:∀k,okQ K (v k)):∀r∈rqL m v,RatOk r K:=by
 intro r hr
 obtain ⟨k,_,rfl⟩:=List.mem_map.1 hr
 exact qAs (h k)
theorem qS4(a b:List R3)(K:Nat)(ha:a.length≤100)(hb:b.length≤100)(ka:∀r∈a,RatOk r K)(kb:∀r∈b,RatOk r K)(hK:1<K)(hK2:K*(2*a.length+3)≤10000000):Ret Tryz.prog 103 [rsD a,rsD b] (·=qsD (qAd (mulC (a.map rv) (b.map rv)))):=by
 have hK3:K≤3333334:=by
  have:=Nat.mul_le_mul_left K (show 3≤2*a.length+3 by omega)
  omega
 have ta:=qBb a (by omega) (fun r hr=>(ka r hr).up (by omega))
 have tb:=qBb b (by omega) (fun r hr=>(kb r hr).up (by omega))
 have la:=qAu (a.map rv)
 have lb:=qAu (b.map rv)
 rw [List.length_map] at la lb
 have oa:∀x∈qAd (a.map rv),okQ K x:=fun x hx=>by
  obtain ⟨r,hr,rfl⟩:=List.mem_map.1 (qLc hx)
  exact qAx (ka r hr) hK
 have ob:∀x∈qAd (b.map rv),okQ K x:=fun x hx=>by
  obtain ⟨r,hr,rfl⟩:=List.mem_map.1 (qLc hx)
  exact qAx (kb r hr) hK
 have he:qAd (mulC (a.map rv) (b.map rv))=qAd (mulC (qAd (a.map rv)) (qAd (b.map rv))):=
  qEg (((qFj _ (qCf _).symm)).trans (qI3 _ (qCf _).symm))
 rw [he]
 have hpT:=qAl (a.map rv)
 have hqT:=qAl (b.map rv)
 generalize qAd (a.map rv)=p at *
 generalize qAd (b.map rv)=q at *
 have ok:∀i,i≤p.length->∀j k,okQ 10000000 (rowV p q i j k):=fun i hi j k=>(ok_row oa ob hK hi j k).mono (by
  have h1:2*K*i+3*K=K*(2*i+3):=by rw [Nat.mul_add,Nat.mul_comm K 3,←Nat.mul_assoc,Nat.mul_comm K 2]
  have h2:=Nat.mul_le_mul_left K (show 2*i+3≤2*a.length+3 by omega)
  omega)
 clear ka kb he
 by_cases h0:p.length=0∨q.length=0
 ·have e:qAd (mulC p q)=[]:=(qKe _).2 fun i=>by
   rcases h0 with h|h
   ·rw [List.length_eq_zero_iff.1 h];rfl
   ·rw [List.length_eq_zero_iff.1 h];exact qI2 p [] (fun _=>rfl) i
  rw [e]
  clear oa ob ok hpT hqT e
  rcases h0 with h|h
  ·have hz:(p.length:Int)=0:=by omega
   refine qAa tab Tryz.func103 rfl rfl (lblz rfl) (fun w0 F0=>?_)
   repeat' (first|refine wG ?_|refine wC ta ?_|refine wC tb ?_|refine rg 11 14 ?_|refine wS ?_ ?_<;>intro _|(show qA5 _ _ _ _ _;first|refine finF true rfl rfl sc ?_|refine finF false rfl rfl sc ?_|refine finC false rfl rfl sc sc ?_|refine finN rfl rfl sc ?_|refine finL true rfl rfl sc rfl (LeR.cons rfl leL LeR.nil) ?_|refine finA true rfl rfl sc ?_|refine finA false rfl rfl sc ?_|refine finE true rfl rfl sc ?_|refine finE false rfl rfl sc ?_))
   all_goals rfl
  ·have hz:(q.length:Int)=0:=by omega
   refine qAa tab Tryz.func103 rfl rfl (lblz rfl) (fun w0 F0=>?_)
   repeat' (first|refine wG ?_|refine wC ta ?_|refine wC tb ?_|refine rg 11 14 ?_|refine wS ?_ ?_<;>intro _|(show qA5 _ _ _ _ _;first|refine finF true rfl rfl sc ?_|refine finF false rfl rfl sc ?_|refine finC false rfl rfl sc sc ?_|refine finN rfl rfl sc ?_|refine finL true rfl rfl sc rfl (LeR.cons rfl leL LeR.nil) ?_|refine finA true rfl rfl sc ?_|refine finA false rfl rfl sc ?_|refine finE true rfl rfl sc ?_|refine finE false rfl rfl sc ?_))
   all_goals rfl
 ·obtain ⟨m,hm⟩:∃m,p.length+q.length-1=m:=⟨_,rfl⟩
  have p0:0<p.length:=by omega
  have q0:0<q.length:=by omega
  have hend:qAd ((List.range m).map (rowV p q p.length 0))=qAd (mulC p q):=qEg fun i=>by
   rw [qQk]
   split
   ·exact rowV_all p q i
   ·have hh:=(qEz p q (p.length-1) (q.length-1) (fun i hi=>qCr (by omega)) (fun i hi=>qCr (by omega))).2 i (by omega)
    exact hh.symm
  have tm:=qBb (rqL m (rowV p q p.length 0)) (by rw [qMb];omega) (rqL_ok fun k=>ok _ (Nat.le_refl _) 0 k)
  rw [rqL_rv,hend] at tm
  generalize qAd (mulC p q)=R at *
  clear hend
  refine qAa tab Tryz.func103 rfl rfl (lblz rfl) (fun w0 F0=>?_)
  repeat' (first|refine wG ?_|refine stepMake (mm:=true) (en:=rC) (z:=r0) tt rfl rfl rfl rfl rfl rfl rfl rfl rfl rfl rfl rfl leL sc sc ?_|refine stepMake (mm:=false) (en:=rC) (z:=r0) tt rfl rfl rfl rfl rfl rfl rfl rfl rfl rfl rfl rfl leL sc sc ?_|refine wC ta ?_|refine wC tb ?_|refine rg 11 14 ?_|refine wS ?_ ?_<;>intro _|refine finG ?_)
  refine qAi (fun (i:Nat)=>([(1,.d (qsD q)),(5,.own 28 0 m 27 3),(29,.d (qsD p)),(30,.d (.int .i64 p.length)),(31,.d (.int .i64 i))],[(28,.data 27 3 rC r0 (rqL m (rowV p q i 0)))])) (fun i=>i≤p.length) (fun i=>p.length-i) 0 (by omega) ⟨rfl,qEn (by omega),rfl,rfl,rfl,rfl⟩ ⟨qBr (by rw [←qVi m (rowV_zero p q)];congr 1;omega),trivial⟩ (fun i hi=>?_)
  have hl1:=qMb m (rowV p q i 0)
  by_cases h3:i<p.length
  ·have gi:p.getD i 0=cf p i:=rfl
   repeat' (first|refine wG ?_|refine rg 11 14 ?_|refine wS ?_ ?_<;>intro _|refine finG ?_)
   refine qAi (fun (j:Nat)=>([(1,.d (qsD q)),(5,.own 28 0 m 27 3),(6,.d (.int .i64 i)),(7,.ptr 7 0),(29,.d (qsD p)),(30,.d (.int .i64 p.length)),(31,.d (.int .i64 i)),(36,.d (qsD q)),(37,.d (.int .i64 q.length)),(38,.d (.int .i64 j))],[(28,.data 27 3 rC r0 (rqL m (rowV p q i j))),(7,.box 27 ((rC (rq (p.getD i 0))).map V.d))])) (fun j=>j≤q.length) (fun j=>q.length-j) 0 (by omega) ⟨rfl,rfl,rfl,rfl,rfl,rfl,rfl,rfl,rfl,rfl,rfl⟩ ⟨rfl,rfl,trivial⟩ (fun j hj=>?_)
   have hl2:=qMb m (rowV p q i j)
   by_cases h4:j<q.length
   ·have ej:((i:Int)+(j:Int)).toNat=i+j:=by omega
    have m1:=qGg (rq (p.getD i 0)) (rq (q.getD j 0)) (qAs ((qCv oa hK i).mono (by omega))) (qAs ((qCv ob hK j).mono (by omega)))
    have oxy:okQ (K+K) (p.getD i 0*q.getD j 0):=(qCv oa hK i).mul (qCv ob hK j)
    have a1:=qC2 ((rqL m (rowV p q i j)).getD ((i:Int)+(j:Int)).toNat r0) (rq (p.getD i 0*q.getD j 0)) (by rw [ej,qP9 (by omega)];exact qAs ((ok i hi j (i+j)).mono (by decide))) (qAs (oxy.mono (by omega)))
    rw [qAw,qAw] at m1
    rw [qAw,ej,qP9 (show i+j<m by omega),qAw] at a1
    have es:=rqL_set (m:=m) (v:=rowV p q i j) (v':=rowV p q i (j+1)) (k:=i+j) (x:=rowV p q i j (i+j)+p.getD i 0*q.getD j 0) (by rw [rowV_step,if_pos rfl];rfl) (fun k hk=>by rw [rowV_step,if_neg hk];exact Rat.add_zero _)
    have a2:Ret Tryz.prog 44 [rD ((rqL m (rowV p q i j)).getD ((i:Int)+(j:Int)).toNat r0),rD (rq (p.getD i 0*q.getD j 0))] (·=rD (rq (rowV p q i j (i+j)+p.getD i 0*q.getD j 0))):=by rw [ej,qP9 (show i+j<m by omega)];exact a1
    clear a1
    generalize rowV p q i j (i+j)+p.getD i 0*q.getD j 0=z at *
    generalize p.getD i 0*q.getD j 0=xy at *
    obtain ⟨L2,hL2⟩:∃L2,rqL m (rowV p q i (j+1))=L2:=⟨_,rfl⟩
    rw [hL2] at es
    generalize rqL m (rowV p q i j)=L at *
    clear oa ob ok hpT hqT ta tb tm oxy
    repeat' (first|refine wG ?_|refine wC m1 ?_|refine wC a2 ?_|refine rg 11 14 ?_|refine wS ?_ ?_<;>intro _|refine finG ?_)
    exact ⟨j+1,by omega,by omega,⟨rfl,rfl,rfl,rfl,rfl,rfl,rfl,rfl,rfl,iv (by omega),rfl⟩,qBr (es.trans hL2.symm),rfl,trivial⟩
   ·have e:j=q.length:=by omega
    subst e
    clear oa ob ok hpT hqT ta tb tm
    repeat' (first|refine wG ?_|refine rg 11 14 ?_|refine wS ?_ ?_<;>intro _|refine finG ?_)
    exact ⟨i+1,by omega,by omega,⟨rfl,rfl,rfl,rfl,iv (by omega),rfl⟩,qBr (rqL_congr (rowV_row q h3)),trivial⟩
  ·have e:i=p.length:=by omega
   subst e
   generalize rqL m (rowV p q p.length 0)=L at *
   clear oa ob ok hpT hqT ta tb
   repeat' (first|refine wG ?_|refine wC tm ?_|refine rg 11 14 ?_|refine wS ?_ ?_<;>intro _|refine finG ?_)
   rfl
theorem qP0(l:List Rat)(hn:l.length≤1000)(hl:∀x∈l,okQ 10000000 x):RetB Tryz.prog 149 [.d (rsD (l.map rq))] (qAh []) (qO (qAd l).length) (qAh [(500,qB (qAd l))]):=by
 have h:=qGr (l.map rq) (by rw [List.length_map];exact hn) (fun r hr=>by
  obtain ⟨q,hq,rfl⟩:=List.mem_map.1 hr
  exact qAs (hl q hq))
 rwa [qAf] at h
theorem qLy(a b:List R3)(K:Nat)(I:List Rat->Prop)(ha:a.length≤100)(hb:b.length≤100)(ka:∀r∈a,RatOk r 10000000)(kb:∀r∈b,RatOk r K)(d0:qAd (b.map rv)≠[])(hI0:I (qAd (a.map rv)))(hI1:∀r,I r->Tr r->(qAd (b.map rv)).length≤r.length->I (stepRP r (qAd (b.map rv))))(hI2:∀r,I r->∀x∈r,okQ K x)(hK:1<K)(hK2:K≤2000000):Ret Tryz.prog 151 [rsD a,rsD b] (·= .tup [qsD (divP (qAd (a.map rv)) (qAd (b.map rv))).1,qsD (divP (qAd (a.map rv)) (qAd (b.map rv))).2,.int .i64 0]):=by
 have ta:=qGr a (by omega) ka
 have tb:=qBb b (by omega) (fun r hr=>(kb r hr).up (by omega))
 have la:=qAu (a.map rv)
 have lb:=qAu (b.map rv)
 rw [List.length_map] at la lb
 have od:∀x∈qAd (b.map rv),okQ K x:=fun x hx=>by
  obtain ⟨r,hr,rfl⟩:=List.mem_map.1 (qLc hx)
  exact qAx (kb r hr) hK
 have hpT:=qAl (a.map rv)
 have hdT:=qAl (b.map rv)
 generalize qAd (a.map rv)=p at *
 generalize qAd (b.map rv)=d at *
 clear ka kb
 have dl:0<d.length:=qA2 d0
 obtain ⟨m,hm⟩:∃m,(max (0:Int) ((p.length:Int)-(d.length:Int)+1)).toNat=m:=⟨_,rfl⟩
 have hm2:m=p.length+1-d.length:=by omega
 have ld0:lead d≠0:=qCo hdT d0
 have odl:okQ K (lead d):=qCv od hK _
 refine qAa tab Tryz.func151 rfl rfl (lblz rfl) (fun w0 F0=>?_)
 repeat' (first|refine wG ?_|refine stepMake (mm:=true) (en:=rC) (z:=r0) tt rfl rfl rfl rfl rfl rfl rfl rfl rfl rfl rfl rfl leL sc sc ?_|refine stepMake (mm:=false) (en:=rC) (z:=r0) tt rfl rfl rfl rfl rfl rfl rfl rfl rfl rfl rfl rfl leL sc sc ?_|refine wD [500] ta ?_|refine wC tb ?_|refine rg 7 20 ?_|refine rg 11 17 ?_|refine wS ?_ ?_<;>intro _|refine finG ?_)
 refine qAi (fun (x:(Nat->Rat)×List Rat)=>([(1,.d (qsD d)),(4,.own 24 0 m 27 3),(5,qO x.2.length)],[(24,.data 27 3 rC r0 (rqL m x.1)),(500,qB x.2)])) (fun x=>I x.2∧Tr x.2∧x.2.length≤p.length∧(∀k,k+d.length≤x.2.length->x.1 k=0)∧(∀k,okQ (2*K) (x.1 k))∧Eqv (addC (mulC ((List.range m).map x.1) d) x.2) p) (fun x=>x.2.length) (fun _=>0,p) ⟨hI0,hpT,Nat.le_refl _,fun _ _=>rfl,fun _=>qB9 (by omega),divP_start⟩ ⟨rfl,qEn hm,rfl,rfl⟩ ⟨qBr (by rw [←qVi m (fun _=>rfl),hm]),rfl,trivial⟩ (fun x hx=>?_)
 obtain ⟨v,r⟩:=x
 obtain ⟨i1,i2,i3,i4,i5,i6⟩:=hx
 dsimp only at i1 i2 i3 i4 i5 i6 ⊢
 have hl1:=qMb m v
 by_cases h3:d.length≤r.length
 ·have or:=hI2 r i1
  obtain ⟨k,hk⟩:∃k,remK r d=k:=⟨_,rfl⟩
  have hk2:k=r.length-d.length:=hk.symm
  obtain ⟨c,hc⟩:∃c,remC r d=c:=⟨_,rfl⟩
  have oc:okQ (2*K) c:=by
   rw [←hc,Nat.two_mul];exact (qCv or hK _).div odl ld0
  have d1:=qKn (rq (r.getD (r.length-1) 0)) (rq (d.getD (d.length-1) 0)) (qAs ((qCv or hK _).mono (by omega))) (qAs ((qCv od hK _).mono (by omega)))
  rw [qAw,qAw,if_neg (show ¬d.getD (d.length-1) 0=0 from ld0),show r.getD (r.length-1) 0/d.getD (d.length-1) 0=c from hc] at d1
  have e1:((r.length:Int)-1).toNat=r.length-1:=by omega
  have e2:((d.length:Int)-1).toNat=d.length-1:=by omega
  have e3:((r.length:Int)-(d.length:Int)).toNat=k:=by omega
  rw [←e1,←e2] at d1
  have es:=rqL_set (m:=m) (v:=v) (v':=updQ v k c) (k:=k) (x:=c) (by unfold updQ;rw [if_pos rfl]) (fun j hj=>by unfold updQ;rw [if_neg hj])
  have eg:=qP9 (m:=m) (v:=updQ v k c) (k:=k) (by omega)
  rw [show updQ v k c k=c by unfold updQ;rw [if_pos rfl]] at eg
  have hst:=updQ_step (m:=m) (p:=p) (i4 _ (by rw [hk];omega)) (by rw [hk];omega) i6
  have hrl:=qE6 i2 hdT d0 h3
  have hra:=rowR_all h3
  rw [hk,hc] at hst hra
  have ht:=qP0 (rowR r d k c d.length) (by rw [rowR_len];omega) (fun x hx=>(rowR_ok or od oc hK _ x hx).mono (by omega))
  rw [hra] at ht
  have hI:=hI1 r i1 i2 h3
  have htr:Tr (stepRP r d):=qAl _
  have ov:∀j,okQ (2*K) (updQ v k c j):=fun j=>by
   unfold updQ
   split
   ·exact oc
   ·exact i5 j
  have fin:∀j,j+d.length≤(stepRP r d).length->updQ v k c j=0:=fun j hj=>by
   unfold updQ
   rw [if_neg (by omega)]
   exact i4 j (by omega)
  have hro:=fun i=>rowR_ok (k:=k) (i:=i) or od oc hK
  generalize stepRP r d=r2 at *
  have hl3:=qMb m (updQ v k c)
  obtain ⟨L1,hL1⟩:∃L1,rqL m v=L1:=⟨_,rfl⟩
  rw [hL1] at hl1 es ⊢
  obtain ⟨L2,hL2⟩:∃L2,rqL m (updQ v k c)=L2:=⟨_,rfl⟩
  rw [hL2] at hl3 es eg
  repeat' (first|refine qSw 9 tt ?_|refine wG ?_|refine wC d1 ?_|refine rg 7 20 ?_|refine rg 11 17 ?_|refine wS ?_ ?_<;>intro _|refine finG ?_)
  refine qId ?_
  repeat' (first|refine wG ?_|refine rg 7 20 ?_|refine rg 11 17 ?_|refine wS ?_ ?_<;>intro _|refine finG ?_)
  refine qAi (fun (i:Nat)=>([(1,.d (qsD d)),(4,.own 24 0 m 27 3),(5,qO r.length),(7,.d (.int .i64 k)),(54,.d (qsD d)),(55,.d (.int .i64 d.length)),(56,.d (.int .i64 i))],[(24,.data 27 3 rC r0 L2),(500,qB (rowR r d k c i))])) (fun i=>i≤d.length) (fun i=>d.length-i) 0 (by omega) ⟨rfl,rfl,rfl,iv (by omega),rfl,rfl,rfl,rfl⟩ ⟨qBr (by rw [e3];exact es),qBr (rowR_zero r d k c).symm,trivial⟩ (fun i hi=>?_)
  have hrl2:=rowR_len r d k c i
  by_cases h4:i<d.length
  ·have m1:=qGg (rq c) (rq (d.getD i 0)) (qAs (oc.mono (by omega))) (qAs ((qCv od hK i).mono (by omega)))
   have s1:=qKm (rq ((rowR r d k c i).getD (k+i) 0)) (rq (c*d.getD i 0)) (qAs ((qCv (hro i) (by omega) _).mono (by omega))) (qAs ((oc.mul (qCv od hK i)).mono (by omega)))
   rw [qAw,qAw] at m1 s1
   have hs:=rowR_set (r:=r) (d:=d) (k:=k) (c:=c) (i:=i) (by omega)
   rw [←eg] at m1
   generalize (rowR r d k c i).getD (k+i) 0-c*d.getD i 0=z at *
   generalize c*d.getD i 0=y at *
   obtain ⟨B,hB⟩:∃B,rowR r d k c (i+1)=B:=⟨_,rfl⟩
   rw [hB] at hs
   generalize rowR r d k c i=A at *
   clear hI0 hI1 hI2 or od hro ov fin i4 i5 i6 hst es hL1 hL2 ta tb ht d1
   repeat' (first|refine wG ?_|refine wC m1 ?_|refine wC s1 ?_|refine rg 7 20 ?_|refine rg 11 17 ?_|refine wS ?_ ?_<;>intro _|refine finG ?_)
   exact ⟨i+1,by omega,by omega,⟨rfl,rfl,rfl,rfl,rfl,rfl,iv (by omega),rfl⟩,rfl,qBr (hs.trans hB.symm),trivial⟩
  ·have e:i=d.length:=by omega
   subst e
   generalize rowR r d k c d.length=A at *
   repeat' (first|refine qSw 13 tt ?_|refine wG ?_|refine rg 7 20 ?_|refine rg 11 17 ?_|refine wS ?_ ?_<;>intro _|refine finG ?_)
   refine qId ?_
   refine qJy ((Conv.frz 500 (b:=qB A) rfl).trans (Conv.cast 5 (rsD (A.map rq)) rfl ((LeD.cutAll (by rw [hrl2])).trans (leQR A)))) ?_
   repeat' (first|refine wG ?_|refine wD [500] ht ?_|refine rg 7 20 ?_|refine rg 11 17 ?_|refine wS ?_ ?_<;>intro _|refine finG ?_)
   exact ⟨(updQ v k c,r2),⟨hI,htr,Nat.le_trans (Nat.le_of_lt hrl) i3,fin,ov,hst⟩,hrl,⟨rfl,rfl,rfl,rfl⟩,qBr hL2.symm,rfl,trivial⟩
 ·have hd:=divP_end hpT hdT d0 i2 (by omega) i6
  have tm:=qBb (rqL m v) (by omega) (rqL_ok fun k=>(i5 k).mono (by omega))
  rw [rqL_rv] at tm
  rw [hd]
  dsimp only
  generalize qAd (List.map v (List.range m))=R at *
  generalize rqL m v=L at *
  clear hI0 hI1 hI2 od i4 i5 i6 ta tb hd
  repeat' (first|refine qSw 14 tt ?_|refine wG ?_|refine rg 7 20 ?_|refine rg 11 17 ?_|refine wS ?_ ?_<;>intro _|refine finG ?_)
  refine qId ?_
  refine qJy ((Conv.frz 500 (b:=qB r) rfl).trans (Conv.cast 5 (qsD r) rfl LeD.full)) ?_
  repeat' (first|refine wG ?_|refine wC tm ?_|refine rg 7 20 ?_|refine rg 11 17 ?_|refine wS ?_ ?_<;>intro _|refine qFx ?_)
  exact LeT.refl _
theorem qCw(p:List Rat){ds es:List D}(h:LeT ds es):LeT (qsD p::ds) (rsD (p.map rq)::es):=LeT.cons (leQR p) h
theorem qBq{p:List Rat}{k:Nat}(h:∀x∈p,okQ k x):∀r∈p.map rq,RatOk r k:=fun r hr=>by
 obtain ⟨q,hq,rfl⟩:=List.mem_map.1 hr
 exact qAs (h q hq)
theorem HtP.gt{h:Nat}{p:List Rat}(H:HtP h p):1<h:=by
 obtain ⟨c,P,c0,hc,_⟩:=H
 have:0<ln c.natAbs:=by
  rcases Nat.eq_zero_or_pos (ln c.natAbs) with e|e
  ·exact absurd (limbs_eq_nil.1 (List.length_eq_zero_iff.1 e)) (by omega)
  ·exact e
 omega
theorem qHg(p d:List Rat){h l:Nat}(hp:Tr p)(hd:Tr d)(d0:d≠[])(lp:p.length≤100)(ld:d.length≤100)(H:HtP h p)(L:HtP l d)(hb:h+(p.length+1-d.length)*l+l≤2000000):Ret Tryz.prog 151 [qsD p,qsD d] (·= .tup [qsD (divP p d).1,qsD (divP p d).2,.int .i64 0]):=by
 have h1:=HtP.gt H
 obtain ⟨K,hK⟩:∃K,K=h+(p.length+1-d.length)*l+l:=⟨_,rfl⟩
 have hv:=qLy (p.map rq) (d.map rq) K (fun r=>∃k,k+(r.length+1-d.length)≤p.length+1-d.length∧HtP (h+k*l) r) (by rw [List.length_map];exact lp) (by rw [List.length_map];exact ld) (qBq fun x hx=>(H.okL x hx).mono (by omega)) (qBq fun x hx=>(L.okL x hx).mono (by omega)) (by rw [qAf,qAr hd];exact d0)
  (by rw [qAf,qAr hp];exact ⟨0,by omega,H.mono (by omega)⟩)
  (by
   rw [qAf,qAr hd]
   rintro r ⟨k,hk,hr⟩ tr hle
   refine ⟨k+1,?_,?_⟩
   ·have:=qE6 tr hd d0 hle;omega
   ·have:=hr.stepRP L (qCo hd d0)
    refine this.mono ?_
    rw [Nat.add_mul,Nat.one_mul];omega)
  (by
   rintro r ⟨k,hk,hr⟩ x hx
   refine (hr.okL x hx).mono ?_
   have:=Nat.mul_le_mul_right l (show k≤p.length+1-d.length by omega)
   omega) (by omega) (by omega)
 rw [qAf,qAf,qAr hp,qAr hd] at hv
 exact hv.args (qCw p (qCw d (LeT.refl _)))
theorem qH2(p:List Rat)(y:Rat)(hp:p.length≤500)(kp:∀x∈p,okQ 5000000 x)(ky:okQ 5000000 y)(h0:y≠0):Ret Tryz.prog 205 [qsD p,qD y] (·=qsD (smul (1/y) p)):=by
 have h:=qOl (p.map rq) (rq y) (by rw [List.length_map];exact hp) (qBq kp) (qAs ky) (by rw [qAw];exact h0)
 rw [qAf,qAw] at h
 exact h.args (qCw p (LeT.refl _))
theorem qLr(p:List Rat)(hT:Tr p)(hp:p.length≤500)(kp:∀x∈p,okQ 5000000 x):Ret Tryz.prog 206 [qsD p] (·=qsD (negC p)):=by
 have h:=qLx [] (p.map rq) (by decide) (by rw [List.length_map];exact hp) (fun r hr=>by simp at hr) (qBq kp)
 rw [qAf,List.map_nil,show subC [] p=negC p from rfl,qAr (qJ2 hT)] at h
 have h2:Ret Tryz.prog 102 [.nils,qsD p] (·=qsD (negC p)):=h.args (LeT.cons LeD.nils (qCw p (LeT.refl _)))
 generalize negC p=r at *
 clear kp hT h
 refine qAa tab Tryz.func206 rfl rfl (lblz rfl) (fun w0 F0=>?_)
 repeat' (first|refine wG ?_|refine wC h2 ?_|refine wS ?_ ?_<;>intro _|refine finG ?_)
 rfl
theorem qPy(fid:FuncId)(ch:List Rat->List Rat)(J:List Rat->List Rat->Prop)(P:List R3)(hP:P.length≤100)(kP:∀r∈P,RatOk r 5000000)(hJ0:J (qAd (P.map rv)) (derP (P.map rv)))
    (hJ:∀a b,J a b->a≠[]->b≠[]->(∃q,Ret Tryz.prog 151 [qsD a,qsD b] (·= .tup [qsD q,qsD (remP a b),.int .i64 0]))∧Ret Tryz.prog 206 [qsD (remP a b)] (·=qsD (negC (remP a b)))∧Ret Tryz.prog fid [qsD (negC (remP a b))] (·=qsD (ch (negC (remP a b))))∧J b (ch (negC (remP a b)))∧(ch (negC (remP a b))).length<b.length) (hl:∀a b,J a b->a.length≤100∧b.length≤100):Ret Tryz.prog 186 [rsD P,.fn fid []] (·=qssD (qBf ch (P.length+1) (qAd (P.map rv)) (derP (P.map rv)))):=by
  have t1:=qBb P (by omega) (fun r hr=>(kP r hr).up (by decide))
  have t2:=qGj P (by omega) kP
  have hn:(derP (P.map rv)).length+1≤P.length+1:=by
    have h1:=qAu (derC (P.map rv))
    rw [qH8,List.length_map] at h1
    show (qAd (derC (P.map rv))).length+1≤_
    omega
  obtain ⟨n,hn0⟩:∃n,P.length+1=n:=⟨_,rfl⟩
  rw [hn0] at hn ⊢
  generalize qAd (P.map rv)=a0 at *
  generalize derP (P.map rv)=b0 at *
  obtain ⟨R,hR⟩:∃R,qBf ch n a0 b0=R:=⟨_,rfl⟩
  rw [hR]
  clear kP
  refine qAa tab Tryz.func186 rfl rfl (lblz rfl) (fun w0 F0=>?_)
  repeat' (first|refine wG ?_|refine wC t1 ?_|refine wC t2 ?_|refine wS ?_ ?_<;>intro _|refine finG ?_)
  refine qB3 5 500 22 1 eQ [] rfl ?_
  refine qAi (fun (x:List (List Rat)×List Rat×List Rat×Nat)=>([(1,.d (.fn fid [])),(5,.own 500 0 x.1.length 22 1),(6,.d (qsD x.2.1)),(7,.d (qsD x.2.2.1))],[(500,.data 22 1 eQ [] x.1)])) (fun x=>J x.2.1 x.2.2.1∧x.2.2.1.length+1≤x.2.2.2∧x.1++qBf ch x.2.2.2 x.2.1 x.2.2.1=R∧x.1.length+x.2.2.2≤1000) (fun x=>x.2.2.2) ([],a0,b0,n) ⟨hJ0,hn,hR,by show 0+n≤1000;omega⟩ ⟨rfl,rfl,rfl,rfl,rfl⟩ ⟨rfl,trivial⟩ (fun x hx=>?_)
  obtain ⟨acc,a,b,k⟩:=x
  obtain ⟨i1,i2,i3,i4⟩:=hx
  dsimp only at i1 i2 i3 i4 ⊢
  obtain ⟨l1,l2⟩:=hl a b i1
  obtain ⟨k,rfl⟩:∃j,k=j+1:=⟨k-1,by omega⟩
  rw [qBf] at i3
  by_cases ha:a=[]
  · rw [if_pos ha,List.append_nil] at i3
    have h0:a.length=0:=by rw [ha];rfl
    rw [←i3]
    clear hJ hJ0 hl t1 t2
    repeat' (first|refine wG ?_|refine wS ?_ ?_<;>intro _|refine finG ?_)
    rfl
  · rw [if_neg ha] at i3
    have h0:=qA2 ha
    by_cases hb:b=[]
    · rw [if_pos hb] at i3
      have h1:b.length=0:=by rw [hb];rfl
      rw [←i3]
      clear hJ hJ0 hl t1 t2
      repeat' (first|refine wG ?_|refine wS ?_ ?_<;>intro _|refine finG ?_)
      rfl
    · rw [if_neg hb] at i3
      have h1:=qA2 hb
      obtain ⟨⟨q,d1⟩,d2,d3,d4,d5⟩:=hJ a b i1 ha hb
      generalize ch (negC (remP a b))=c at *
      generalize negC (remP a b)=y at *
      generalize remP a b=z at *
      clear hJ hJ0 hl t1 t2
      repeat' (first|refine wG ?_|refine wC d1 ?_|refine wC d2 ?_|refine wC d3 ?_|refine wS ?_ ?_<;>intro _|refine finG ?_)
      exact ⟨(acc++[a],b,c,k),⟨d4,by show c.length+1≤k;omega,by rw [←i3];show (acc++[a])++_=_;simp only [List.append_assoc,List.singleton_append],by show (acc++[a]).length+k≤1000;rw [List.length_append,List.length_singleton];omega⟩,by show k<k+1;omega,⟨rfl,qEn (by rw [List.length_append]),rfl,rfl,rfl⟩,rfl,trivial⟩
theorem backward_iter(l:List R3)(hn:l.length≤1000):Iter Tryz.prog 157 [.ptr [rsD l] 0] l.length (fun k=>[.int .i64 ((l.length:Int)-1-k),rD (l.getD ((l.length:Int)-1-k).toNat r0)]):=by
 refine iter_of_awpI tab Tryz.func157 rfl rfl (lblz rfl) (fun bs ks hfam L w0 F0 A io0 hY=>?_)
 refine qLq (qHs ?_ nout)
 repeat' (first|refine wG ?_|refine wS ?_ ?_<;>intro _|refine finG ?_)
 refine qO6 (awpI_loop1 (fun (k:Nat)=>([(0,.d (.raw (.func (.yield L) #[] #[]))),(1,.d (.ptr [rsD l] 0)),(3,.d (.int .i64 ((l.length:Int)-1-k)))],bs k)) (fun k=>k≤l.length) (fun k=>l.length-k) 0 (by omega) ⟨rfl,rfl,iv (by omega),rfl⟩ (hfam.of rfl) (fun k hk=>?_) (fun k=>by show (qH9 _ _&&qEd (bs k) (bs k))=true;rw [hfam.covB k];rfl))
 refine qLq (qLq (qHs ?_ nout))
 repeat' (first|refine wG ?_|refine wS ?_ ?_<;>intro _|refine finG ?_)
 refine awpI_cond rfl (fun h=>?_) (fun h=>?_)
 ·have h:=of_decide_eq_true h
  refine awpI_skip ?_
  show awpI _ _ _ _ _ _
  refine qLq (qO6 (qLq (awpI_cut 6 nout ?_)))
  repeat' (first|refine wG ?_|refine wS ?_ ?_<;>intro _|refine finG ?_)
  refine lI_yieldF hfam (hY k (by omega)) rfl rfl rfl rfl rfl rfl leVT (hfam.of rfl) ?_
  refine awpLI_all ?_ nout
  repeat' (first|refine wG ?_|refine wS ?_ ?_<;>intro _|refine finG ?_)
  refine awpI_cond rfl (fun h=>absurd h (by simp)) (fun _=>?_)
  refine awpI_skip ?_
  show awpI _ _ _ _ _ _
  refine qHs ?_ nout
  repeat' (first|refine wG ?_|refine wS ?_ ?_<;>intro _|refine finG ?_)
  exact ⟨k+1,by omega,by omega,⟨rfl,rfl,iv (by omega),rfl⟩,hfam.same rfl⟩
 ·have h:=of_decide_eq_false h
  refine awpI_exit ?_
  have e:k=l.length:=by omega
  subst e
  exact ⟨rfl,⟨[],rfl,.inr ⟨by simp,[],rfl,LeVT.nil⟩⟩,hfam.of rfl⟩
theorem qQv(l:List R3):Ret Tryz.prog 112 [rsD l] (·= .fn 157 [.ptr [rsD l] 0]):=by
 refine qAa tab Tryz.func112 rfl rfl (lblz rfl) (fun w0 F0=>?_)
 repeat' (first|refine wG ?_|refine wS ?_ ?_<;>intro _|(show qA5 _ _ _ _ _;first|refine finF true rfl rfl sc ?_|refine finF false rfl rfl sc ?_|refine finC false rfl rfl sc sc ?_|refine finN rfl rfl sc ?_|refine finL true rfl rfl sc rfl (LeR.cons rfl leL LeR.nil) ?_|refine finA true rfl rfl sc ?_|refine finA false rfl rfl sc ?_|refine finE true rfl rfl sc ?_|refine finE false rfl rfl sc ?_))
 trace_state
 rfl
def qKa(p:List Rat)(x:Rat)(k:Nat):Rat:=qAb (p.drop (p.length-k)) x
theorem qR3(p:List Rat)(x:Rat):qKa p x 0=0:=by unfold qKa;rw [Nat.sub_zero,List.drop_length];rfl
theorem qJp(p:List Rat)(x:Rat):qKa p x p.length=qAb p x:=by unfold qKa;rw [Nat.sub_self];rfl
theorem qR4{p:List Rat}{x:Rat}{k:Nat}(h:k<p.length):qKa p x (k+1)=qKa p x k*x+p.getD (p.length-1-k) 0:=by
 unfold qKa
 rw [show p.length-k=p.length-(k+1)+1 by omega,show p.length-1-k=p.length-(k+1) by omega,List.drop_eq_getElem_cons (show p.length-(k+1)<p.length by omega)]
 simp only [qAb,List.getD_eq_getElem?_getD,List.getElem?_eq_getElem (show p.length-(k+1)<p.length by omega),Option.getD_some]
theorem qM2:rq 0=r0:=by decide+kernel
theorem qKq(l:List R3)(x:R3)(hn:l.length≤1000)(hl:∀r∈l,RatOk r 5000000)(hx:RatOk x 5000000)(hk:∀k,k≤l.length->okQ 5000000 (qKa (l.map rv) (rv x) k)):Ret Tryz.prog 60 [rsD l,rD x] (·=qD (qAb (l.map rv) (rv x))):=by
 have hb:=qQv l
 have hit:=backward_iter l hn
 rw [show qAb (l.map rv) (rv x)=qKa (l.map rv) (rv x) l.length from by rw [←qJp,List.length_map]]
 obtain ⟨H,hH⟩:∃H,qKa (l.map rv) (rv x)=H:=⟨_,rfl⟩
 have h0:H 0=0:=by rw [←hH];exact qR3 _ _
 have hs:∀k,k<l.length->H (k+1)=H k*rv x+rv (l.getD ((l.length:Int)-1-k).toNat r0):=fun k hk=>by
  rw [←hH,qR4 (by simpa using hk),List.length_map,gRv (by omega),show ((l.length:Int)-1-k).toNat=l.length-1-k by omega]
 rw [hH] at hk ⊢
 clear hH
 refine ret_of_awpE tab Tryz.func60 rfl rfl (lblz rfl) (fun w0 F0=>?_)
 refine awpE_seq ?_
 repeat' (first|refine wG ?_|refine rg 4 4 ?_|refine wS ?_ ?_<;>intro _|refine finG ?_)
 refine awpE_seq ?_
 repeat' (first|refine wG ?_|refine rg 4 4 ?_|refine wS ?_ ?_<;>intro _|refine finG ?_)
 refine awpE_seq2 ?_
 repeat' (first|refine wG ?_|refine wC hb ?_|refine rg 4 4 ?_|refine wS ?_ ?_<;>intro _|refine finG ?_)
 refine awpEB_conv ((Conv.box 5 (rC r0) rfl leL).trans (Conv.box 4 (cs:=[.bool false,.nils,.nils]) (rC r0) rfl leL)) ?_
 refine awpEB_slots [(3,.ptr 3 0),(4,.ptr 4 0),(5,.ptr 5 0),(9,.d (.fn 157 [.ptr [rsD l] 0]))] [(3,.box 27 ((rC x).map V.d)),(4,.box 27 ((rC r0).map V.d)),(5,.box 27 ((rC (rq (H 0))).map V.d))] ⟨rfl,rfl,rfl,rfl,rfl⟩ ⟨rfl,rfl,(by rw [h0,qM2];rfl),trivial⟩ ?_
 refine awpEB_range (N:=l.length) (bs:=fun k=>[(3,.box 27 ((rC x).map V.d)),(4,.box 27 ((rC r0).map V.d)),(5,.box 27 ((rC (rq (H k))).map V.d))]) (ks:=[3,4,5]) ⟨fun k=>rfl,fun k=>rfl,fun k=>rfl,fun k=>⟨rfl,rfl,rfl,trivial⟩,fun k=>⟨Nat.le_refl _,Nat.le_refl _,Nat.le_refl _,trivial⟩⟩ rfl hit rfl (lblz rfl) (lblz rfl) ?_ ?_
 ·intro k hk1 L w0 F0 A io0
  have g1:RatOk (l.getD ((l.length:Int)-1-k).toNat r0) 5000000:=gMem hl (by omega)
  have g2:=hk k (by omega)
  have m1:=qGg (rq (H k)) x (qAs (g2.mono (by decide))) (hx.up (by decide))
  have oq:okQ 10000000 (H k*rv x):=(g2.mul (qAx hx (by decide))).mono (by decide)
  rw [qAw] at m1
  have a1:=qC2 (rq (H k*rv x)) (l.getD ((l.length:Int)-1-k).toNat r0) (qAs (oq.mono (by decide))) (g1.up (by decide))
  rw [qAw,←hs k hk1] at a1
  refine qHs ?_ nout
  repeat' (first|refine wG ?_|refine rg 4 4 ?_|refine wS ?_ ?_<;>intro _|refine finG ?_)
  intro w0 F0 A io0
  refine qO6 (awpI_regE (ex:=false) 4 [] nout mixed (by kernel_rfl) rfl rfl rfl ?_)
  repeat' (first|refine wG ?_|refine wC m1 ?_|refine wC a1 ?_|refine rg 4 4 ?_|refine wS ?_ ?_<;>intro _|refine finG ?_)
  exact ⟨rfl,rfl,rfl,rfl,trivial⟩
 ·intro D w0 F0 A io0
  refine qLq (qHs ?_ nout)
  repeat' (first|refine wG ?_|refine rg 4 4 ?_|refine wS ?_ ?_<;>intro _|refine finG ?_)
  refine awpI_ret ?_
  repeat' (first|refine wG ?_|refine rg 4 4 ?_|refine wS ?_ ?_<;>intro _|refine finG ?_)
  rfl
theorem qS5(a b:List R3)(J:List Rat->List Rat->Prop)(ha:a.length≤100)(hb:b.length≤100)(ka:∀r∈a,RatOk r 10000000)(kb:∀r∈b,RatOk r 10000000)(hJ0:J (qAd (a.map rv)) (qAd (b.map rv)))
    (hT:∀p q,J p q->Tr p∧Tr q∧p.length≤1000∧q.length≤1000)
    (hS:∀p,(∃q,J p q∨J q p)->p≠[]->Ret Tryz.prog 205 [qsD p,qD (p.getD ((p.length:Int)-1).toNat 0)] (·=qsD (qA7 p)))
    (hJ:∀p q,J p q->q≠[]->(∃z,Ret Tryz.prog 151 [qsD p,qsD q] (·= .tup [qsD z,qsD (remP p q),.int .i64 0]))∧J (qA7 q) (remP p q)):Ret Tryz.prog 184 [rsD a,rsD b] (·=qsD (gcdP (qAd (a.map rv)) (qAd (b.map rv)))):=by
  have ta:=qBb a (by omega) ka
  have tb:=qBb b (by omega) kb
  generalize qAd (a.map rv)=p0 at *
  generalize qAd (b.map rv)=q0 at *
  obtain ⟨G,hG⟩:∃G,gcdP p0 q0=G:=⟨_,rfl⟩
  rw [hG]
  clear ka kb
  refine qAa tab Tryz.func184 rfl rfl (lblz rfl) (fun w0 F0=>?_)
  repeat' (first|refine wG ?_|refine wC ta ?_|refine wC tb ?_|refine wS ?_ ?_<;>intro _|refine finG ?_)
  refine qAi (fun (x:List Rat×List Rat)=>([(0,.d (qsD x.1)),(1,.d (qsD x.2))],[])) (fun x=>J x.1 x.2∧gcdP x.1 x.2=G) (fun x=>x.2.length) (p0,q0) ⟨hJ0,hG⟩ ⟨rfl,rfl,rfl⟩ trivial (fun x hx=>?_)
  obtain ⟨p,q⟩:=x
  obtain ⟨i1,i2⟩:=hx
  dsimp only at i1 i2 ⊢
  obtain ⟨t1,t2,t3,t4⟩:=hT p q i1
  by_cases hq:q=[]
  · subst hq
    rw [qG3] at i2
    have h0:([]:List Rat).length=0:=rfl
    by_cases hp:p=[]
    · subst hp
      rw [←i2,monic_nil]
      clear hJ0 hT hS hJ ta tb
      repeat' (first|refine wG ?_|refine wS ?_ ?_<;>intro _|(show qA5 _ _ _ _ _;first|refine finF true rfl rfl sc ?_|refine finF false rfl rfl sc ?_|refine finC false rfl rfl sc sc ?_|refine finN rfl rfl sc ?_|refine finL true rfl rfl sc rfl (LeR.cons rfl leL LeR.nil) ?_|refine finA true rfl rfl sc ?_|refine finA false rfl rfl sc ?_|refine finE true rfl rfl sc ?_|refine finE false rfl rfl sc ?_))
      all_goals rfl
    · have s1:=hS p ⟨_,.inl i1⟩ hp
      have h1:=qA2 hp
      rw [i2] at s1
      clear hJ0 hT hS hJ ta tb
      repeat' (first|refine wG ?_|refine wC s1 ?_|refine wS ?_ ?_<;>intro _|refine finG ?_)
      rfl
  · have s1:=hS q ⟨_,.inr i1⟩ hq
    obtain ⟨⟨z,d1⟩,d2⟩:=hJ p q i1 hq
    have h1:=qA2 hq
    have st:=qGn t1 t2 hq (a:=1/lead q) (b:=1) (by
      intro h
      have:=qCo t2 hq
      have h2:lead q*(1/lead q)=1:=by rw [Rat.div_def,Rat.one_mul];exact Rat.mul_inv_cancel _ this
      rw [h,Rat.mul_zero] at h2
      exact absurd h2 (by decide)) (by decide)
    rw [qDk,i2] at st
    have rl:=qC4 t1 t2 hq
    have e:smul (1/lead q) q=qA7 q:=rfl
    rw [e] at st
    generalize remP p q=r at *
    generalize qA7 q=m at *
    clear hJ0 hT hS hJ ta tb e
    repeat' (first|refine wG ?_|refine wC d1 ?_|refine wC s1 ?_|refine wS ?_ ?_<;>intro _|refine finG ?_)
    exact ⟨(m,r),⟨d2,st.symm⟩,rl,⟨rfl,rfl,rfl⟩,trivial⟩
theorem qNe(x:Rat)(h:okQ 10000000 x):Ret Tryz.prog 134 [qD x] (·=qD (absQ x)):=by
 have sg:=qB7 x (h.mono (by decide))
 have n1:=qH0 (rq x) (qAs (h.mono (by decide)))
 rw [qAw] at n1
 have n2:=qH0 (rq (-x)) (qAs (h.neg.mono (by decide)))
 rw [qAw,Rat.neg_neg] at n2
 have hs:x.num.sign<0↔x<0:=by rw [←num_lt0,←Int.not_le,←Int.not_le,Int.sign_nonneg_iff]
 generalize x.num.sign=s at *
 unfold absQ
 by_cases c:x<0
 ·have hn:=hs.2 c
  rw [if_pos c]
  clear hs
  refine qAa tab Tryz.func134 rfl rfl (lblz rfl) (fun w0 F0=>?_)
  repeat' (first|refine wG ?_|refine wC sg ?_|refine wC n1 ?_|refine wS ?_ ?_<;>intro _|refine finG ?_)
  rfl
 ·have hn:=mt hs.1 c
  rw [if_neg c]
  clear hs
  refine qAa tab Tryz.func134 rfl rfl (lblz rfl) (fun w0 F0=>?_)
  repeat' (first|refine wG ?_|refine wC sg ?_|refine wC n1 ?_|refine wC n2 ?_|refine wS ?_ ?_<;>intro _|refine finG ?_)
  rfl
theorem qPz(p:List Rat)(hp:p.length≤500)(kp:∀x∈p,okQ 5000000 x)(hT:Tr p):Ret Tryz.prog 187 [qsD p] (·=qsD (smul (1/absQ (lead p)) p)):=by
 by_cases h0:p=[]
 ·subst h0
  show Ret _ _ _ (·=qsD [])
  refine qAa tab Tryz.func187 rfl rfl (lblz rfl) (fun w0 F0=>?_)
  repeat' (first|refine wG ?_|refine wS ?_ ?_<;>intro _|(show qA5 _ _ _ _ _;first|refine finF true rfl rfl sc ?_|refine finF false rfl rfl sc ?_|refine finC false rfl rfl sc sc ?_|refine finN rfl rfl sc ?_|refine finL true rfl rfl sc rfl (LeR.cons rfl leL LeR.nil) ?_|refine finA true rfl rfl sc ?_|refine finA false rfl rfl sc ?_|refine finE true rfl rfl sc ?_|refine finE false rfl rfl sc ?_))
  all_goals rfl
 ·have h1:=qA2 h0
  have e1:((p.length:Int)-1).toNat=p.length-1:=by omega
  have a1:=qNe (lead p) ((qCv kp (by decide) _).mono (by decide))
  have hab:absQ (lead p)≠0:=by
   have:=qCo hT h0
   unfold absQ
   split
   ·intro h;apply this;grind
   ·exact this
  have ka:okQ 5000000 (absQ (lead p)):=by
   have:=qCv kp (by decide) (p.length-1)
   unfold absQ
   split
   ·exact okQ.neg this
   ·exact this
  have s1:=qH2 p (absQ (lead p)) hp kp ka hab
  have a2:Ret Tryz.prog 134 [qD (p.getD ((p.length:Int)-1).toNat 0)] (·=qD (absQ (lead p))):=by rw [e1];exact a1
  generalize smul (1/absQ (lead p)) p=R at *
  generalize absQ (lead p)=y at *
  clear a1 kp
  refine qAa tab Tryz.func187 rfl rfl (lblz rfl) (fun w0 F0=>?_)
  repeat' (first|refine wG ?_|refine wC a2 ?_|refine wC s1 ?_|refine wS ?_ ?_<;>intro _|refine finG ?_)
  rfl
theorem qSj(F:List (List Rat))(x:R3)(hF:F.length≤1000)(he:∀i,i<F.length->Ret Tryz.prog 60 [qsD (F.getD i []),rD x] (·=qD (qAb (F.getD i []) (rv x)))∧okQ 10000000 (qAb (F.getD i []) (rv x))):Ret Tryz.prog 207 [qssD F,rD x] (·= .int .i64 (chg 0 (F.map fun f=>sgQ (qAb f (rv x))))):=by
 obtain ⟨S,hS⟩:∃S,(F.map fun f=>sgQ (qAb f (rv x)))=S:=⟨_,rfl⟩
 have hSl:S.length=F.length:=by rw [←hS,List.length_map]
 have hSi:∀i,i<F.length->S.drop i=sgQ (qAb (F.getD i []) (rv x))::S.drop (i+1):=fun i hi=>by
  rw [List.drop_eq_getElem_cons (by omega)]
  congr 1
  subst hS
  simp [List.getD_eq_getElem?_getD,hi]
 rw [hS]
 clear hS
 obtain ⟨R,hR⟩:∃R,chg 0 S=R:=⟨_,rfl⟩
 rw [hR]
 refine qAa tab Tryz.func207 rfl rfl (lblz rfl) (fun w0 F0=>?_)
 repeat' (first|refine wG ?_|refine wS ?_ ?_<;>intro _|refine finG ?_)
 refine qAi (fun (y:Int×Int×Nat)=>([(3,.ptr 3 0),(5,.d (.int .i64 y.1)),(6,.d (.int .i64 y.2.1)),(10,.d (qssD F)),(11,.d (.int .i64 F.length)),(12,.d (.int .i64 y.2.2))],[(3,.box 27 ((rC x).map V.d))])) (fun y=>0≤y.1∧y.1≤y.2.2∧ -1≤y.2.1∧y.2.1≤1∧y.2.2≤F.length∧y.1+chg y.2.1 (S.drop y.2.2)=R) (fun y=>F.length-y.2.2) (0,0,0) ⟨by decide,by decide,by decide,by decide,Nat.zero_le _,by show 0+chg 0 (S.drop 0)=R;rw [List.drop_zero,hR];omega⟩ ⟨rfl,rfl,rfl,rfl,rfl,rfl,rfl⟩ ⟨rfl,trivial⟩ (fun y hy=>?_)
 obtain ⟨n,last,i⟩:=y
 obtain ⟨i1,i2,i3,i4,i5,i6⟩:=hy
 dsimp only at i1 i2 i3 i4 i5 i6 ⊢
 by_cases h3:i<F.length
 ·obtain ⟨e1,e2⟩:=he i h3
  have e3:=qB7 _ e2
  rw [hSi i h3,chg] at i6
  have b1: -1≤sgQ (qAb (F.getD i []) (rv x))∧sgQ (qAb (F.getD i []) (rv x))≤1:=by
   unfold sgQ
   rcases Int.lt_trichotomy (qAb (F.getD i []) (rv x)).num 0 with h|h|h
   ·rw [Int.sign_eq_neg_one_of_neg h];decide
   ·rw [h];decide
   ·rw [Int.sign_eq_one_of_pos h];decide
  have e4:Ret Tryz.prog 38 [qD (qAb (F.getD i []) (rv x))] (·= .int .i64 (sgQ (qAb (F.getD i []) (rv x)))):=e3
  clear e3 e2 he hSi
  generalize sgQ (qAb (F.getD i []) (rv x))=s at *
  generalize qAb (F.getD i []) (rv x)=v at *
  obtain ⟨b1,b2⟩:=b1
  by_cases c0:s=0
  ·rw [if_neg (by omega),if_neg (by omega)] at i6
   repeat' (first|refine wG ?_|refine wC e1 ?_|refine wC e4 ?_|refine wS ?_ ?_<;>intro _|refine finG ?_)
   all_goals exact ⟨(n,last,i+1),⟨i1,by show n≤((i+1:Nat):Int);omega,i3,i4,h3,by rw [←i6];show n+chg last (S.drop (i+1))=_;omega⟩,by show F.length-(i+1)<F.length-i;omega,⟨rfl,rfl,rfl,rfl,rfl,rfl,rfl⟩,rfl,trivial⟩
  ·rw [if_pos (show s≠0 from c0)] at i6
   by_cases c1:last≠0∧s≠last
   ·rw [if_pos ⟨c0,c1.1,c1.2⟩] at i6
    obtain ⟨c1,c2⟩:=c1
    repeat' (first|refine wG ?_|refine wC e1 ?_|refine wC e4 ?_|refine wS ?_ ?_<;>intro _|refine finG ?_)
    all_goals exact ⟨(n+1,s,i+1),⟨by show 0≤n+1;omega,by show n+1≤((i+1:Nat):Int);omega,b1,b2,h3,by rw [←i6];show n+1+chg s (S.drop (i+1))=_;omega⟩,by show F.length-(i+1)<F.length-i;omega,⟨rfl,rfl,rfl,rfl,rfl,rfl,rfl⟩,rfl,trivial⟩
   ·rw [if_neg (fun h=>c1 ⟨h.2.1,h.2.2⟩)] at i6
    repeat' (first|refine wG ?_|refine wC e1 ?_|refine wC e4 ?_|refine wS ?_ ?_<;>intro _|refine finG ?_)
    all_goals exact ⟨(n,s,i+1),⟨i1,by show n≤((i+1:Nat):Int);omega,b1,b2,h3,by rw [←i6];show n+chg s (S.drop (i+1))=_;omega⟩,by show F.length-(i+1)<F.length-i;omega,⟨rfl,rfl,rfl,rfl,rfl,rfl,rfl⟩,rfl,trivial⟩
 ·have e:i=F.length:=by omega
  rw [e,List.drop_of_length_le (by omega),chg] at i6
  clear he hSi
  repeat' (first|refine wG ?_|refine wS ?_ ?_<;>intro _|refine finG ?_)
  rw [←i6,Int.add_zero]
end Go.Proofs.YtejigedigmagdaaGreat
