/-
 Contracts of functions of the program, and the layer that they are walked with: W03 Plots W04 W11 W12 VV VU OrdersB OrdersC OrdersD OrdersE W20 PolA PolB PolH PolJ PolC PolK PolG PolL. Conditions: as each says.
-/
import Derived.Test.YtejigedigmagdaaGreatA06
set_option linter.unnecessarySimpa false
set_option linter.unusedVariables false
set_option linter.unusedSimpArgs false
set_option maxHeartbeats 4000000
namespace Go.Proofs.YtejigedigmagdaaGreat
open Go.Vw
attribute [local irreducible] awp awpL awpR Int.decLt Int.decLe Int.instDecidableEq
end Go.Proofs.YtejigedigmagdaaGreat
namespace Go.Vw
end Go.Vw
set_option maxHeartbeats 8000000
namespace Go.Proofs.YtejigedigmagdaaGreat
open Go.Vw
attribute [local irreducible] awp awpL awpR
end Go.Proofs.YtejigedigmagdaaGreat
namespace Go.Proofs.YtejigedigmagdaaGreat
open Go.Vw
attribute [local irreducible] awp awpL awpR Int.decLt Int.decLe
theorem sl_small(d:Array Rat)(lim:Nat)(hd:AllOk d)(hn:d.size≤12)(hlim:lim<1000):RetB Tryz.prog 197 [ow d,.d (.int .i64 0),.d (.int .i64 d.size),.d (.int .i64 lim),cmpV] (qAh [(1000,bq d)]) (.tup []) (qAh [(1000,bq (qVg d 0 d.size))]):=by
 have hl:d.toList.length=d.size:=Array.length_toList
 have hr:=qTq (Nat.zero_le d.size) (Nat.le_refl d.size)
 have ci:=sl_insertion d 0 d.size hd (by omega) (Nat.zero_le _) (Nat.le_refl _)
 obtain ⟨R,hR⟩:∃R,qVg d 0 d.size=R:=⟨_,rfl⟩
 rw [hR] at hr ci ⊢
 refine qBa tab [1000] Tryz.func197 rfl rfl rfl (lblz rfl) rfl ⟨by show d.toList.length≤R.toList.length;simp [hr],trivial⟩ (fun w0 F0 A io0=>?_)
 repeat' (first|refine wG ?_|refine rg 17 13 ?_|refine wS ?_ ?_<;>intro _|refine wB ?_ ?_)
 refine qAi (fun (_:Unit)=>([(0,ow d),(1,.d (.int .i64 0)),(2,.d (.int .i64 d.size)),(3,.d (.int .i64 lim)),(4,cmpV),(10,_),(11,_)],[(1000,bq d)])) (fun _=>True) (fun _=>0) () trivial ⟨rfl,rfl,rfl,rfl,rfl,rfl,rfl,rfl⟩ ⟨rfl,trivial⟩ (fun _ _=>?_)
 clear hR hd
 repeat' (first|refine wG ?_|refine wD [] ci ?_|refine rg 17 13 ?_|refine wS ?_ ?_<;>intro _|refine wB ?_ ?_)
 all_goals first|exact leVT|exact ⟨rfl,trivial⟩
theorem qQu(l:List Rat)(hn:l.length≤12)(hl:∀q∈l,okQ 1000 q):RetB Tryz.prog 172 [.own 1000 0 l.length 27 3,.fn 109 []] (qAh [(1000,.data 27 3 qC 0 l)]) (.tup []) (qAh [(1000,.data 27 3 qC 0 (srt l))]):=by
 have h:RetB Tryz.prog 197 [.own 1000 0 l.length 27 3,.d (.int .i64 0),.d (.int .i64 l.length),.d (.int .i64 (len8 l.length)),.fn 109 []] (qAh [(1000,.data 27 3 qC 0 l)]) (.tup []) (qAh [(1000,.data 27 3 qC 0 (srt l))]):=by
  have h0:=sl_small l.toArray (len8 l.length) hl (by simp;omega) (by have:=(len8_le l.length (by omega)).1;omega)
  have e:=srtIn_all l.toArray
  rw [show l.toArray.size=l.length by simp,show l.toArray.toList=l by simp] at e
  rw [←e]
  exact h0
 have hs:=qE2 l
 have hb:=bits_Len l.length (by omega)
 generalize len8 l.length=n at *
 refine qBa tab [1000] Tryz.func172 rfl rfl rfl (lblz rfl) rfl ⟨by show l.length≤(srt l).length;rw [qE2];exact Nat.le_refl _,trivial⟩ (fun w0 F0 A io0=>?_)
 repeat' (first|refine wG ?_|refine wD [] h ?_|refine wC hb ?_|refine wS ?_ ?_<;>intro _|refine wB ?_ ?_)
 all_goals first|exact leVT|exact ⟨rfl,trivial⟩
end Go.Proofs.YtejigedigmagdaaGreat
namespace Go.Proofs.YtejigedigmagdaaGreat
open Go.Vw
attribute [local irreducible] awp awpL awpR
end Go.Proofs.YtejigedigmagdaaGreat
set_option linter.unusedSectionVars false
namespace Go.Vw
open Go.RowKit
def St.ren(σ τ:Nat->Nat)(s:St):St:={tmps:=fun t=>(s.tmps t).ren σ,blk:=renO σ τ s.blk,dfs:=[]}
theorem SR.ren{X:Ctx}{io:Nat->Option Nat}{F:Nat->Prop}{s:St}{a:Act}{w:World}(hs:SR X io F s a w)(hd:s.dfs=[]){σ τ:Nat->Nat}(h1:∀k,σ (τ k)=k)(h2:∀k,τ (σ k)=k)(hK:∀k∈X.K,τ k=k):SR X (fun k=>io (τ k)) F (s.ren σ τ) a w:=by
 have hne:∀k,(s.ren σ τ).blk k≠none->s.blk (τ k)≠none:=fun k h=>by
  intro e
  exact h (by simp only [St.ren,renO,e,Option.map_none])
 have hln:∀k,(s.ren σ τ).ln k=s.ln (τ k):=fun k=>by
  cases h:s.blk (τ k) with
  |none=>
   have:(s.ren σ τ).blk k=none:=by simp only [St.ren,renO,h,Option.map_none]
   unfold St.ln
   rw [this,h]
  |some b=>
   have:(s.ren σ τ).blk k=some (b.ren σ):=by simp only [St.ren,renO,h,Option.map_some]
   rw [qFm this,qFm h,Blk.ren_ln]
 have hkeys:(⟨fun k=>((s.ren σ τ).keys fun k=>io (τ k)).io (σ k),fun k=>((s.ren σ τ).keys fun k=>io (τ k)).ln (σ k)⟩:Keys)=s.keys io:=by
  show (⟨fun k=>io (τ (σ k)),fun k=>(s.ren σ τ).ln (σ k)⟩:Keys)=⟨io,s.ln⟩
  congr 1
  ·funext k;rw [h2]
  ·funext k;rw [hln,h2]
 refine ⟨hs.kept,fun t=>?_,hs.nt,?_,fun k b hk=>?_,fun k k' b e1 e2 e3 e4=>?_,hs.ff,hs.f0,fun k hk=>?_⟩
 ·refine (VR.ren (io:=(s.ren σ τ).keys fun k=>io (τ k)) (s.tmps t) _).1 ?_
  rw [hkeys]
  exact hs.tm t
 ·have:=hs.df
  rw [hd] at this
  exact this
 ·simp only [St.ren,renO,Option.map_eq_some_iff] at hk
  obtain ⟨b0,e0,rfl⟩:=hk
  have:=hs.bl (τ k) b0 e0
  rw [←hkeys] at this
  have:=BR.ren (io:=(s.ren σ τ).keys fun k=>io (τ k)).1 this
  rwa [h1] at this
 ·have:=hs.inj (τ k) (τ k') b (hne k e1) (hne k' e2) e3 e4
  have:=congrArg σ this
  rwa [h1,h1] at this
 ·show io (τ k)=X.io0 k
  rw [hK k hk]
  exact hs.st k hk
def renT(σ:Nat->Nat):List (Nat×V)->List (Nat×V)
 |[]=>[]
 |(k,v)::r=>(k,v.ren σ)::renT σ r
theorem lookT_ren(σ:Nat->Nat):∀(l:List (Nat×V)) (t:Nat),(qNo l t).ren σ=qNo (renT σ l) t
 |[],t=>rfl
 |(k,v)::r,t=>by
  simp only [qNo,renT]
  cases Nat.beq t k with
  |true=>rfl
  |false=>simpa using lookT_ren σ r t
theorem qT9:∀(l:List (Nat×Nat)) (k:Nat),(l.all fun p=> !(Nat.beq k p.1)&& !(Nat.beq k p.2))=true->permI l k=k
 |[],k,_=>rfl
 |(a,b)::r,k,h=>by
  simp only [List.all_cons,Bool.and_eq_true,Bool.not_eq_true'] at h
  simp only [permI]
  rw [qT9 r k (by simpa using h.2)]
  unfold swp
  rw [h.1.1,h.1.2]
  rfl
theorem awp_rekey{X:Ctx}{c:Code}{Q:Exit->St->Prop}{ts:List (Nat×V)}{bs:List (Nat×Blk)}(l:List (Nat×Nat)){ts2:List (Nat×V)}{bs2:List (Nat×Blk)}(h:awp X c Q (St.of ts2 bs2))(hK:(X.K.all fun k=>l.all fun p=> !(Nat.beq k p.1)&& !(Nat.beq k p.2))=true:=by rfl)(e1:renT (perm l) ts=ts2:=by rfl)(e2:renB (perm l) bs=bs2:=by rfl):awp X c Q (St.of ts bs):=fun io F a w hs=>by
 subst e1 e2
 have:=hs.ren rfl (qG8 l) (qG9 l) (fun k hk=>qT9 l k (by
  simp only [List.all_eq_true] at hK
  have:=hK k hk
  simpa only [List.all_eq_true] using this))
 have e:(St.of ts bs).ren (perm l) (permI l)=St.of (renT (perm l) ts) (renB (perm l) bs):=by
  unfold St.ren St.of
  congr 1
  ·funext t;exact lookT_ren _ _ _
  ·exact qNp (qG8 l) (qG9 l) bs
 rw [e] at this
 exact h _ F a w this
theorem awp_rename{X:Ctx}{c:Code}{Q:Exit->St->Prop}{s:St}(ts:List (Nat×V))(bs:List (Nat×Blk))(l:List (Nat×Nat))(ht:AllT s ts)(hb:AllB s bs){ts2:List (Nat×V)}{bs2:List (Nat×Blk)}(h:awp X c Q (St.of ts2 bs2))(hK:(X.K.all fun k=>l.all fun p=> !(Nat.beq k p.1)&& !(Nat.beq k p.2))=true:=by rfl)(e1:renT (perm l) ts=ts2:=by rfl)(e2:renB (perm l) bs=bs2:=by rfl)(hc:(qH9 bs ts&&qEd bs bs)=true:=by rfl):awp X c Q s:=
 qN6 ts bs ht hb (awp_rekey l h hK e1 e2) hc
def insL(L:Nat->Bool)(i:Nat):Nat->Bool:=fun j=>bif Nat.beq j i then true else L j
theorem qIk{X:Ctx}(hm:X.P.follows .mixedOrders=true){id:Nat}{ops:List Oper}(n:Nat)(tf:TailFacts ops.toArray n)(A:(Nat->Bool)->St){Q:Exit->St->Prop}{s s1:St}(h0:A (fun _=>false)=s)(h1:∀L,(∀j,j<n->L j=true)->(∀j,L j=true->j<n)->A L=s1)
    (step:∀(L:Nat->Bool) (i:Nat) (o:Oper),i<n->ops.toArray[i]? =some o->L i=false->(∀j,L j=true->j<n)->(∀j,j<i->((qFw ops.toArray.toList []).getD i 0).testBit j=true->L j=true)->(∀j,L j=true->∀k,((qFw ops.toArray.toList []).getD j 0).testBit k=true->L k=true)->E1 X ops.toArray (A L) o (A (insL L i)))
    (htail:awpL X ops.toArray (ops.drop n) Q s1):awp X (.region id ops.toArray true) Q s:=by
  intro io F0 a0 w0 hs
  refine wp_region_any hm ?_
  have hle:=tf.le
  have hsz:ops.toArray.size=ops.length:=rfl
  have getn:∀j,j<n->∃o,ops.toArray[j]? =some o:=fun j hj=>⟨_,Array.getElem?_eq_getElem (by omega)⟩
  have key:∀(u fuel:Nat) (listed:Array Bool) (io:Nat->Option Nat) (F:Nat->Prop) (a:Act) (w:World),(List.range n).countP (fun j=> !listed.getD j false)≤u->u+(ops.toArray.size-n)≤fuel->listed.size=ops.toArray.size->
      (∀j,listed.getD j false=true->j<n)->(∀i o,ops.toArray[i]? =some o->listed.getD i false=true->∀e∈o.after,Region.binds .any e=true->listed.getD e.on false=true)->
      SR X io F (A (fun j=>listed.getD j false)) a w->wpAny X.P .any ops.toArray (lift X Q) fuel listed a w:=by
    intro u
    induction u with
    |zero=>
      intro fuel listed io F a w hu hfu hsize htl hcl hsr
      have hall:∀j,j<n->listed.getD j false=true:=fun j hj=>by
        have:=List.countP_eq_zero.1 (Nat.le_zero.1 hu) j (by simpa using hj)
        simpa using this
      refine qTl tf (ops.toArray.size-n) n fuel listed a w (Nat.le_refl _) (by omega) (by omega) hsize (fun j=>⟨htl j,hall j⟩) ?_
      rw [h1 _ hall htl] at hsr
      exact htail _ _ _ _ hsr
    |succ u ih=>
      intro fuel listed io F a w hu hfu hsize htl hcl hsr
      by_cases hall:∀j,j<n->listed.getD j false=true
      · have h0:(List.range n).countP (fun j=> !listed.getD j false)=0:=List.countP_eq_zero.2 fun j hj=>by simp only [List.mem_range] at hj;simp [hall j hj]
        exact ih fuel listed io F a w (by omega) (by omega) hsize htl hcl hsr
      · have hex:∃j,j<n∧listed.getD j false≠true∧∀k,k<j->listed.getD k false=true:=by
          have:∃j,j<n∧listed.getD j false≠true:=by
            rcases Classical.em (∃j,j<n∧listed.getD j false≠true) with h|h
            · exact h
            · exact absurd (fun j hj=>Classical.byContradiction fun hne=>h ⟨j,hj,hne⟩) hall
          obtain ⟨j,hj⟩:=this
          induction j using Nat.strongRecOn with
          |_ j ihj=>
            by_cases hk:∃k,k<j∧listed.getD k false≠true
            · obtain ⟨k,hk1,hk2⟩:=hk
              exact ihj k hk1 ⟨by omega,hk2⟩
            · exact ⟨j,hj.1,hj.2,fun k hk1=>Classical.byContradiction fun h=>hk ⟨k,hk1,h⟩⟩
        obtain ⟨j0,hj0,hnl,hless⟩:=hex
        cases fuel with
        |zero=>omega
        |succ fuel=>
          obtain ⟨o0,ho0⟩:=getn j0 hj0
          have hready0:j0∈Region.ready .any ops.toArray listed:=mem_ready.2 ⟨by
              simp [show j0<listed.size by omega] at hnl ⊢
              exact hnl,o0,ho0,fun e he hb=>hless _ (tf.back j0 o0 ho0 e he hb)⟩
          refine ⟨fun hnil=>(by rw [hnil] at hready0;cases hready0),fun i hi=>?_⟩
          obtain ⟨h0,o,ho,hpre⟩:=mem_ready.1 hi
          have hilt:=(Array.getElem?_eq_some_iff.1 ho).1
          have hspec:∀j,((qFw ops.toArray.toList []).getD i 0).testBit j=true->listed.getD j false=true∨j=i:=fun j hbit=>
            qHc (fun j=>listed.getD j false=true∨j=i) ops.toArray.toList [] 0 rfl (fun i h=>by simp at h) (fun k' o' h1 h2 e he hb=>by
              rcases h2 with h2|h2
              · left;exact hcl k' o' (by simpa using h1) (by simpa using h2) e he hb
              · left
                simp only [Nat.zero_add] at h2
                subst h2
                have:o'=o:=by
                  have h1':ops.toArray[k']? =some o':=by simpa using h1
                  rw [ho] at h1';cases h1';rfl
                subst this
                exact hpre e he hb) (fun k' o' h1 e he hb=>by simpa using tf.back k' o' (by simpa using h1) e he hb) i (.inr rfl) j hbit
          have hin:i<n:=by
            rcases Nat.lt_or_ge i n with h'|h'
            · exact h'
            · rcases hspec j0 (tf.tail i h' hilt j0 (by omega)) with h|h
              · exact absurd h hnl
              · omega
          have hclm:∀j,listed.getD j false=true->∀k,((qFw ops.toArray.toList []).getD j 0).testBit k=true->listed.getD k false=true:=fun j hj k hk=>
            qHc (fun j=>listed.getD j false=true) ops.toArray.toList [] 0 rfl (fun i h=>by simp at h) (fun k' o' h1 h2 e he hb=>hcl k' o' (by simpa using h1) (by simpa using h2) e he hb) (fun k' o' h1 e he hb=>by simpa using tf.back k' o' (by simpa using h1) e he hb) j hj k hk
          have hunl:listed.getD i false=false:=by
            simp [show i<listed.size by omega] at h0 ⊢
            exact h0
          have hs2:=step (fun j=>listed.getD j false) i o hin ho hunl htl (fun j hji hbit=>by
            rcases hspec j hbit with h|h
            · exact h
            · omega) hclm io F a w hsr (wpAny X.P .any ops.toArray (lift X Q) fuel (listed.setIfInBounds i true)) (lift X Q) fun io' F' a' w' hs'=>by
            have hins:A (insL (fun j=>listed.getD j false) i)=A (fun j=>(listed.setIfInBounds i true).getD j false):=by
              congr 1
              funext j
              unfold insL
              by_cases e:j=i
              · subst e;simp [qFr (show j<listed.size by omega)]
              · rw [getD_set_ne false (Ne.symm e)];simp [e]
            rw [hins] at hs'
            refine ih fuel _ io' F' a' w' ?_ (by omega) (by simpa using hsize) (fun j hj=>?_) (fun k ok hk hlk e he hb=>?_) hs'
            · have:=countP_lt (p:=fun j=> !listed.getD j false) (q:=fun j=> !(listed.setIfInBounds i true).getD j false) (i:=i) (by simp [hunl]) (by simp [qFr (show i<listed.size by omega)]) (fun j hj=>by
                by_cases e:j=i
                · subst e;simp [hunl]
                · rw [getD_set_ne false (Ne.symm e)] at hj;exact hj) (l:=List.range n) (by simpa using hin)
              omega
            · by_cases e:j=i
              · rw [e];exact hin
              · rw [getD_set_ne false (Ne.symm e)] at hj;exact htl j hj
            · by_cases e':k=i
              · subst e'
                rw [ho] at hk;cases hk
                exact getD_set_true (hpre e he hb)
              · rw [getD_set_ne false (Ne.symm e')] at hlk
                exact getD_set_true (hcl k ok hk hlk e he hb)
          unfold wpOp
          simp only [ho]
          exact hs2
  have hdr:SR X io F0 (A (fun j=>(Array.replicate ops.toArray.size false).getD j false)) a0 w0.drew:=by
    have e:(fun j=>(Array.replicate ops.toArray.size false).getD j false)=fun _=>false:=by
      funext j
      simp only [Array.getD_eq_getD_getElem?,Array.getElem?_replicate]
      split<;>rfl
    rw [e,h0]
    exact hs.drew
  refine key n ops.toArray.size _ io F0 a0 w0.drew ?_ (by omega) (by simp) (fun j hj=>?_) (fun i o ho hl=>?_) hdr
  · exact Nat.le_trans List.countP_le_length (by simp)
  · simp only [Array.getD_eq_getD_getElem?,Array.getElem?_replicate] at hj
    split at hj<;>simp at hj
  · simp only [Array.getD_eq_getD_getElem?,Array.getElem?_replicate] at hl
    split at hl<;>simp at hl
def isApp(o:Oper):Bool:=match o.op with| .call c=>(match c.callee with| .builtin .append=>true|_=>false)|_=>false
def qHq(all:Array Oper)(a b:Oper):Bool:=qFa all b a.dst||qFa all a b.dst||(match a.dst,b.dst with|some x,some y=>x==y|_,_=>false)||(isApp a&&isApp b)
def ordA(ops:Array Oper)(n:Nat):Bool:=
 qIc ops&&Nat.ble n ops.size&&
 ((List.range n).all fun j=>match ops[j]? with
  |some b=>(List.range j).all fun i=>match ops[i]? with
   |some a=> !(qHq ops a b)||((qFw ops.toList []).getD j 0).testBit i
   |none=>false
  |none=>false)&&
 ((List.range ops.size).all fun i=>Nat.blt i n||Nat.beq ((qFw ops.toList []).getD i 0) (2^i-1))&&
 ((List.range n).all fun j=>match ops[j]? with
  |some b=>isApp b||(List.range n).all fun i=>match ops[i]? with|some a=> !(isApp a)|| !(qFa ops b a.dst)|none=>false
  |none=>false)
structure OrdA (ops:Array Oper) (n:Nat):Prop where
 tf:TailFacts ops n
 ord:∀i j a b,i<j->j<n->ops[i]? =some a->ops[j]? =some b->qHq ops a b=true->((qFw ops.toList []).getD j 0).testBit i=true
 reg:∀i j a b,i<n->j<n->ops[i]? =some a->ops[j]? =some b->isApp a=true->isApp b=false->qFa ops b a.dst=false
theorem ordA_spec{ops:Array Oper}{n:Nat}(h:ordA ops n=true):OrdA ops n:=by
  simp only [ordA,Bool.and_eq_true] at h
  obtain ⟨⟨⟨⟨hb,hle⟩,hm⟩,ht⟩,hr⟩:=h
  refine ⟨⟨fun i o hi e he hbind=>?_,Nat.le_of_ble_eq_true hle,fun i h1 h2 j hj=>?_⟩,fun i j a b hij hj ha hb' hc=>?_,fun i j a b hi hj ha hb' h1 h2=>?_⟩
  · simp only [qIc,List.all_eq_true,List.mem_range] at hb
    have:=hb i (Array.getElem?_eq_some_iff.1 hi).1
    rw [hi] at this
    simp only [List.all_eq_true] at this
    have:=this e (by simpa using he)
    rw [hbind] at this
    simpa [Nat.blt_eq] using this
  · simp only [List.all_eq_true,List.mem_range] at ht
    have h3:=ht i h2
    have hnb:Nat.blt i n=false:=by
      cases hq:Nat.blt i n with
      |false=>rfl
      |true=>have:i<n:=by simpa [Nat.blt_eq] using hq
             omega
    rw [hnb,Bool.false_or] at h3
    have h4:=Nat.eq_of_beq_eq_true h3
    rw [h4,Nat.testBit_two_pow_sub_one]
    simpa using hj
  · simp only [List.all_eq_true,List.mem_range] at hm
    have h1:=hm j hj
    rw [hb'] at h1
    simp only [List.all_eq_true,List.mem_range] at h1
    have h2:=h1 i hij
    rw [ha] at h2
    simp only [hc,Bool.not_true,Bool.false_or] at h2
    exact h2
  · simp only [List.all_eq_true,List.mem_range] at hr
    have h3:=hr j hj
    rw [hb'] at h3
    simp only [h2,Bool.false_or,List.all_eq_true,List.mem_range] at h3
    have h4:=h3 i hi
    rw [ha] at h4
    simpa only [h1,Bool.not_true,Bool.false_or,Bool.not_eq_true'] using h4
inductive UpdA:Type 1 where
 |reg (d:Option Tmp) (x:V)
 |app (d:Tmp) (x:V) (k:Nat) (b:Blk)
def UpdA.dst:UpdA->Option Tmp
 | .reg d _=>d
 | .app d _ _ _=>some d
def UpdA.isApp:UpdA->Bool
 | .reg _ _=>false
 | .app _ _ _ _=>true
def apA(s:St):UpdA->St
 | .reg d x=>s.put d x
 | .app d x k b=>(s.new k b).put (some d) x
def accA(s:St)(us:Nat->UpdA)(L:Nat->Bool):Nat->St
 |0=>s
 |n+1=>bif L n then apA (accA s us L n) (us n) else accA s us L n
theorem qNj{s:St}{k:Nat}{b:Blk}(t:Nat):(s.new k b).tmps t=(s.tmps t).sub k none:=rfl
theorem qH1{s:St}{d:Tmp}{x:V}(t:Nat):(s.put (some d) x).tmps t=if t=d then x else s.tmps t:=by
 simp only [St.put]
 by_cases h:t=d
 ·subst h;simp
 ·rw [if_neg h,qEe h];rfl
theorem qOr{s:St}{d:Option Tmp}{x:V}{k:Nat}{b:Blk}(h:x.noKey k=true):(s.put d x).new k b=(s.new k b).put d x:=by
 cases d with
 |none=>rfl
 |some d=>
  refine St.eta (funext fun t=>?_) rfl rfl
  rw [qNj,qH1,qH1,qNj]
  split
  ·exact V.sub_noKey _ h
  ·rfl
theorem qGz{s:St}{d d':Option Tmp}{x x':V}(h:∀t,d=some t->d'≠some t):(s.put d x).put d' x'=(s.put d' x').put d x:=by
 cases d with
 |none=>rfl
 |some d=>cases d' with
  |none=>rfl
  |some d'=>
   refine St.eta (funext fun t=>?_) rfl rfl
   simp only [qH1]
   by_cases h1:t=d
   ·subst h1
    rw [if_pos rfl,if_pos rfl,if_neg (fun e=>h t rfl (by rw [e]))]
   ·by_cases h2:t=d'
    ·subst h2;rw [if_pos rfl,if_neg h1,if_pos rfl]
    ·rw [if_neg h2,if_neg h1,if_neg h1,if_neg h2]
theorem qQo{s:St}{us:Nat->UpdA}{L L':Nat->Bool}:∀n,(∀i,i<n->(us i).isApp=true->L i=L' i)->(accA s us L n).blk=(accA s us L' n).blk
 |0,_=>rfl
 |n+1,h=>by
  have ih:=qQo (s:=s) (L:=L) (L':=L') n fun i hi=>h i (by omega)
  simp only [accA]
  cases hu:us n with
  |reg d x=>
   have e:∀(b:Bool) (s0:St),(bif b then apA s0 (.reg d x) else s0).blk=s0.blk:=fun b s0=>by cases b<;>simp [apA,qE3]
   rw [e,e,ih]
  |app d x k b=>
   rw [h n (by omega) (by rw [hu];rfl)]
   cases L' n with
   |true=>
    simp only [cond_true,apA,qE3]
    show (fun j=>_)=(fun j=>_)
    funext j
    simp only [St.new,St.withBlk,St.sub,ih]
   |false=>exact ih
theorem accA_reg{s:St}{us:Nat->UpdA}{ks:List Nat}{L L':Nat->Bool}{t:Nat}(h0:∀k∈ks,(s.tmps t).noKey k=true):∀n,(∀i,i<n->(us i).dst=some t->L i=L' i∧(us i).isApp=false)->(∀i,i<n->∀d x,us i= .reg d x->∀k∈ks,x.noKey k=true)->(∀i,i<n->∀d x k b,us i= .app d x k b->k∈ks)->
    (accA s us L n).tmps t=(accA s us L' n).tmps t∧∀k∈ks,((accA s us L n).tmps t).noKey k=true
  |0,_,_,_=>⟨rfl,h0⟩
  |n+1,h1,h2,h3=>by
    obtain ⟨ih,ik⟩:=accA_reg (L:=L) (L':=L') h0 n (fun i hi=>h1 i (by omega)) (fun i hi=>h2 i (by omega)) (fun i hi=>h3 i (by omega))
    simp only [accA]
    cases hu:us n with
    |reg d x=>
      by_cases hd:d=some t
      · subst hd
        rw [(h1 n (by omega) (by rw [hu];rfl)).1]
        have hx:=h2 n (by omega) _ x hu
        cases L' n with
        |true=>simp only [cond_true,apA,qH1,if_true,true_and];exact hx
        |false=>exact ⟨ih,ik⟩
      · have e:∀(b:Bool) (s0:St),(bif b then apA s0 (.reg d x) else s0).tmps t=s0.tmps t:=fun b s0=>by cases b<;>simp only [cond_true,cond_false,apA];exact qHf hd
        rw [e,e];exact ⟨ih,ik⟩
    |app d x k b=>
      have hd:¬t=d:=fun e=>by
        have:=(h1 n (by omega) (by rw [hu,e];rfl)).2
        rw [hu] at this;cases this
      have hk:=h3 n (by omega) d x k b hu
      have hk':∀k∈ks,((accA s us L' n).tmps t).noKey k=true:=by rw [←ih];exact ik
      have e:∀(b':Bool) (s0:St),(∀k∈ks,(s0.tmps t).noKey k=true)->(bif b' then apA s0 (.app d x k b) else s0).tmps t=s0.tmps t:=fun b' s0 hs=>by
        cases b' with
        |true=>simp only [cond_true,apA];rw [qH1,if_neg hd,qNj,V.sub_noKey _ (hs k hk)]
        |false=>rfl
      rw [e _ _ ik,e _ _ hk'];exact ⟨ih,ik⟩
theorem qQp{s:St}{us:Nat->UpdA}{L L':Nat->Bool}{t:Nat}:∀n,(∀i,i<n->(us i).dst=some t->L i=L' i)->(∀i,i<n->(us i).isApp=true->L i=L' i)->(accA s us L n).tmps t=(accA s us L' n).tmps t
 |0,_,_=>rfl
 |n+1,h1,h2=>by
  have ih:=qQp (s:=s) (L:=L) (L':=L') (t:=t) n (fun i hi=>h1 i (by omega)) (fun i hi=>h2 i (by omega))
  simp only [accA]
  cases hu:us n with
  |reg d x=>
   by_cases hd:d=some t
   ·subst hd
    rw [h1 n (by omega) (by rw [hu];rfl)]
    cases L' n with
    |true=>simp only [cond_true,apA,qH1,if_true]
    |false=>exact ih
   ·have e:∀(b:Bool) (s0:St),(bif b then apA s0 (.reg d x) else s0).tmps t=s0.tmps t:=fun b s0=>by cases b<;>simp only [cond_true,cond_false,apA];exact qHf hd
    rw [e,e];exact ih
  |app d x k b=>
   rw [h2 n (by omega) (by rw [hu];rfl)]
   cases L' n with
   |true=>simp only [cond_true,apA,qH1,qNj,ih]
   |false=>exact ih
theorem qJ1{s:St}{us:Nat->UpdA}{L:Nat->Bool}{i:Nat}(hL:L i=false):∀n,i<n->(∀j,i<j->j<n->L j=true->∀s0,apA (apA s0 (us i)) (us j)=apA (apA s0 (us j)) (us i))->accA s us (insL L i) n=apA (accA s us L n) (us i)
 |0,h,_=>by omega
 |n+1,h,hc=>by
  have same:∀j,j≠i->insL L i j=L j:=fun j hj=>by unfold insL;rw [qEe hj];rfl
  have hi:insL L i i=true:=by unfold insL;simp
  simp only [accA]
  by_cases e:i=n
  ·subst e
   have h2:accA s us (insL L i) i=accA s us L i:=by
    have:∀m,m≤i->accA s us (insL L i) m=accA s us L m:=by
     intro m
     induction m with
     |zero=>intro _;rfl
     |succ m ih=>intro hm;simp only [accA];rw [ih (by omega),same m (by omega)]
    exact this i (Nat.le_refl _)
   rw [hi,hL,h2];rfl
  ·rw [qJ1 hL n (by omega) (fun j h1 h2=>hc j h1 (by omega)),same n (Ne.symm e)]
   cases hn:L n with
   |true=>simp only [cond_true];exact hc n (by omega) (by omega) hn _
   |false=>rfl
theorem qGb{s:St}{us:Nat->UpdA}{L L':Nat->Bool}:∀m,(∀j,j<m->L j=L' j)->accA s us L m=accA s us L' m
 |0,_=>rfl
 |m+1,h=>by simp only [accA];rw [qGb m (fun j hj=>h j (by omega)),h m (by omega)]
inductive PRunA (X:Ctx) (all:Array Oper) (ks:List Nat):List Oper->St->St->Prop
 |nil {s:St}:PRunA X all ks [] s s
 |reg {o:Oper} {rest:List Oper} {s s':St} {x:V} (hd:qB5 X.N o.dst=true) (h:∀s':St,(∀t∈o.looksAt all,s'.tmps t=s.tmps t)->M1 X all s' o x) (hna:isApp o=false) (hx:(ks.all fun k=>x.noKey k)=true) (k:PRunA X all ks rest (s.put o.dst x) s'):PRunA X all ks (o::rest) s s'
 |app {o:Oper} {rest:List Oper} {s s':St} {d:Tmp} {x:V} {k:Nat} {b:Blk} (ha:isApp o=true) (hd:o.dst=some d) (hk:ks.contains k=true) (h:∀s':St,s'.blk=s.blk->(∀t∈o.looksAt all,s'.tmps t=s.tmps t)->E1 X all s' o ((s'.new k b).put (some d) x)) (kk:PRunA X all ks rest ((s.new k b).put (some d) x) s'):PRunA X all ks (o::rest) s s'
inductive UpdOkA (X:Ctx) (all:Array Oper) (ks:List Nat) (s:St) (o:Oper):UpdA->Prop
 |reg {x:V} (hd:qB5 X.N o.dst=true) (h:∀s':St,(∀t∈o.looksAt all,s'.tmps t=s.tmps t)->M1 X all s' o x) (hna:isApp o=false) (hx:(ks.all fun k=>x.noKey k)=true):UpdOkA X all ks s o (.reg o.dst x)
 |app {d:Tmp} {x:V} {k:Nat} {b:Blk} (ha:isApp o=true) (hd:o.dst=some d) (hk:ks.contains k=true) (h:∀s':St,s'.blk=s.blk->(∀t∈o.looksAt all,s'.tmps t=s.tmps t)->E1 X all s' o ((s'.new k b).put (some d) x)):UpdOkA X all ks s o (.app d x k b)
theorem prunA_us{X:Ctx}{all:Array Oper}{ks:List Nat}:∀{l:List Oper} {s s':St},PRunA X all ks l s s'->∃us:Nat->UpdA,s'=accA s us (fun _=>true) l.length∧∀i o,l[i]? =some o->UpdOkA X all ks (accA s us (fun _=>true) i) o (us i)
 |[],s,s',h=>by
  cases h
  exact ⟨fun _=>.reg none (.d .undef),rfl,fun i o h=>by simp at h⟩
 |o::rest,s,s',h=>by
  have shift:∀(u0:UpdA) (us:Nat->UpdA) (m:Nat) (s0:St),accA s0 (fun i=>match i with|0=>u0|i+1=>us i) (fun _=>true) (m+1)=accA (apA s0 u0) us (fun _=>true) m:=fun u0 us m s0=>by
   induction m with
   |zero=>rfl
   |succ m ih=>rw [accA,ih];rfl
  have fin:∀(u0:UpdA),UpdOkA X all ks s o u0->PRunA X all ks rest (apA s u0) s'->∃us:Nat->UpdA,s'=accA s us (fun _=>true) (o::rest).length∧∀i o',(o::rest)[i]? =some o'->UpdOkA X all ks (accA s us (fun _=>true) i) o' (us i):=fun u0 h0 hk=>by
   obtain ⟨us,h1,h2⟩:=prunA_us hk
   refine ⟨fun i=>match i with|0=>u0|i+1=>us i,?_,fun i o' hi=>?_⟩
   ·rw [List.length_cons,shift,h1]
   ·cases i with
    |zero=>simp at hi;subst hi;exact h0
    |succ i=>rw [shift];exact h2 i o' (by simpa using hi)
  cases h with
  |reg hd hm hna hx hk=>exact fin _ (.reg hd hm hna hx) hk
  |app ha hd hk hm kk=>exact fin _ (.app ha hd hk hm) kk
theorem qTj{X:Ctx}(hm:X.P.follows .mixedOrders=true){id:Nat}{ops:List Oper}(n:Nat)(ks:List Nat)(hok:ordA ops.toArray n=true){Q:Exit->St->Prop}{sx s1:St}(hKs:(ks.all fun k=> !(X.K.contains k))=true)(hdf:sx.dfs=[])(hrun:PRunA X ops.toArray ks (ops.take n) (sx.kills ks) s1)(htail:awpL X ops.toArray (ops.drop n) Q s1):awp X (.region id ops.toArray true) Q sx:=by
  have hf:=ordA_spec hok
  have hfree:=FreeSt.kills (s:=sx) ks
  have hdf2:(sx.kills ks).dfs=[]:=by
    clear hrun hfree hKs
    induction ks with
    |nil=>exact hdf
    |cons k r ih=>
      show qNz k none (sx.kills r).dfs=[]
      rw [ih];rfl
  have main:awp X (.region id ops.toArray true) Q (sx.kills ks):=by
    generalize sx.kills ks=s at hfree hrun hdf2
    obtain ⟨us,hs1,hx⟩:=prunA_us hrun
    have hle:=hf.tf.le
    have hsz:ops.toArray.size=ops.length:=rfl
    have getop:∀i,i<n->(ops.take n)[i]? =ops.toArray[i]? :=fun i hi=>by simp [List.getElem?_take,hi]
    have hlen:(ops.take n).length=n:=by simp;omega
    rw [hlen] at hs1
    have ok:∀i o,i<n->ops.toArray[i]? =some o->UpdOkA X ops.toArray ks (accA s us (fun _=>true) i) o (us i):=fun i o hi ho=>hx i o (by rw [getop i hi];exact ho)
    have getn:∀j,j<n->∃o,ops.toArray[j]? =some o:=fun j hj=>⟨_,Array.getElem?_eq_getElem (by omega)⟩
    have dstOf:∀i o,i<n->ops.toArray[i]? =some o->(us i).dst=o.dst∧(us i).isApp=isApp o:=fun i o hi ho=>by
      have:=ok i o hi ho
      generalize us i=u at this
      cases this with
      |reg _ _ hna=>exact ⟨rfl,hna.symm⟩
      |app ha hd=>exact ⟨hd.symm,ha.symm⟩
    have regx:∀i,i<n->∀d x,us i= .reg d x->∀k∈ks,x.noKey k=true:=fun i hi d x hu k hk=>by
      obtain ⟨o,ho⟩:=getn i hi
      have:=ok i o hi ho
      rw [hu] at this
      cases this with
      |reg _ _ _ hx=>rw [List.all_eq_true] at hx;exact hx k hk
    have appk:∀i,i<n->∀d x k b,us i= .app d x k b->k∈ks:=fun i hi d x k b hu=>by
      obtain ⟨o,ho⟩:=getn i hi
      have:=ok i o hi ho
      rw [hu] at this
      cases this with
      |app _ _ hk=>simpa [List.contains_eq_mem] using hk
    have full:∀i,i≤n->accA s us (fun _=>true) i=accA s us (fun j=>decide (j<i)) n:=fun i hi=>by
      have h1:accA s us (fun _=>true) i=accA s us (fun j=>decide (j<i)) i:=qGb i fun j hj=>by simp [hj]
      have h2:∀m,i≤m->m≤n->accA s us (fun j=>decide (j<i)) m=accA s us (fun j=>decide (j<i)) i:=by
        intro m
        induction m with
        |zero=>intro h1 _;obtain rfl:i=0:=by omega
               rfl
        |succ m ih=>
          intro h1 h2
          by_cases e:i=m+1
          · rw [e]
          · simp only [accA];rw [ih (by omega) (by omega)];simp [show ¬m<i by omega]
      rw [h1,h2 n hi (Nat.le_refl _)]
    refine qIk hm n hf.tf (fun L=>accA s us L n) (s1:=s1) ?_ (fun L h1 h2=>?_) (fun L i o hi ho hLi hLn hLp hLc=>?_) htail
    · have:∀m,accA s us (fun _=>false) m=s:=by
        intro m
        induction m with
        |zero=>rfl
        |succ m ih=>simp only [accA,cond_false];exact ih
      exact this n
    · rw [hs1]
      exact qGb n fun j hj=>h1 j hj
    · have diff:∀j b,j<n->ops.toArray[j]? =some b->qHq ops.toArray b o=true∨qHq ops.toArray o b=true->L j=decide (j<i):=fun j b hj hb hc=>by
        have sym:qHq ops.toArray b o=true∧qHq ops.toArray o b=true:=by
          have:qHq ops.toArray b o=qHq ops.toArray o b:=by
            unfold qHq
            rw [Bool.or_comm (qFa ops.toArray o b.dst),Bool.and_comm (isApp b)]
            congr 1
            congr 1
            cases b.dst<;>cases o.dst<;>simp [Bool.beq_comm,eq_comm]
          rw [this] at hc ⊢
          simpa using hc
        rcases Nat.lt_trichotomy j i with h|h|h
        · rw [decide_eq_true h];exact hLp j h (hf.ord j i b o h hi hb ho sym.1)
        · subst h;rw [hLi,decide_eq_false (by omega)]
        · rw [decide_eq_false (by omega)]
          cases hL:L j with
          |false=>rfl
          |true=>
            have:=hLc j hL i (hf.ord i j o b h hj ho hb sym.2)
            rw [hLi] at this;cases this
      have hins:accA s us (insL L i) n=apA (accA s us L n) (us i):=qJ1 hLi n hi fun j hij hjn hLj s0=>by
        obtain ⟨b,hb⟩:=getn j hjn
        have hnc:qHq ops.toArray o b=false:=by
          cases hc:qHq ops.toArray o b with
          |false=>rfl
          |true=>
            have:=hLc j hLj i (hf.ord i j o b hij hjn ho hb hc)
            rw [hLi] at this;cases this
        simp only [qHq,Bool.or_eq_false_iff] at hnc
        obtain ⟨⟨_,h3⟩,h4⟩:=hnc
        have hd:∀t,(us i).dst=some t->(us j).dst≠some t:=fun t e1 e2=>by
          rw [(dstOf i o hi ho).1] at e1
          rw [(dstOf j b hjn hb).1] at e2
          rw [e1,e2] at h3
          simp at h3
        have hap:¬((us i).isApp=true∧(us j).isApp=true):=fun ⟨e1,e2⟩=>by
          rw [(dstOf i o hi ho).2] at e1
          rw [(dstOf j b hjn hb).2] at e2
          rw [e1,e2] at h4;cases h4
        cases hui:us i with
        |reg d x=>
          rw [hui] at hd
          cases huj:us j with
          |reg d' x'=>rw [huj] at hd;simp only [apA];exact qGz hd
          |app d' x' k' b'=>
            rw [huj] at hd
            simp only [apA]
            rw [qOr (regx i hi d x hui k' (appk j hjn d' x' k' b' huj))]
            exact qGz (d:=d) (d':=some d') hd
        |app d x k' b'=>
          rw [hui] at hd hap
          cases huj:us j with
          |reg d' x'=>
            rw [huj] at hd
            simp only [apA]
            rw [qOr (regx j hjn d' x' huj k' (appk i hi d x k' b' hui))]
            exact qGz (d:=some d) (d':=d') hd
          |app d' x' k'' b''=>rw [huj] at hap;exact absurd ⟨rfl,rfl⟩ hap
      show E1 X ops.toArray (accA s us L n) o (accA s us (insL L i) n)
      rw [hins]
      have hoki:=ok i o hi ho
      cases hui:us i with
      |reg d x=>
        rw [hui] at hoki
        cases hoki with
        |reg hd h hna hxx=>
          refine (h (accA s us L n) fun t ht=>?_).e1 hd
          rw [full i (by omega)]
          refine (accA_reg (ks:=ks) (fun k hk=>(hfree k hk).tm t) n (fun j hj hu=>?_) regx appk).1
          obtain ⟨b,hb⟩:=getn j hj
          have hbd:b.dst=some t:=by rw [←(dstOf j b hj hb).1];exact hu
          refine ⟨diff j b hj hb (.inl (by simp [qHq,hbd,qFl ht])),?_⟩
          rw [(dstOf j b hj hb).2]
          cases hab:isApp b with
          |false=>rfl
          |true=>
            have:=hf.reg j i b o hj hi hb ho hab hna
            rw [hbd,qFl ht] at this;cases this
      |app d x k b=>
        rw [hui] at hoki
        cases hoki with
        |app ha hd hk h=>
          have happ:∀j,j<n->(us j).isApp=true->L j=decide (j<i):=fun j hj hu=>by
            obtain ⟨b',hb'⟩:=getn j hj
            exact diff j b' hj hb' (.inl (by simp [qHq,ha,←(dstOf j b' hj hb').2,hu]))
          refine h (accA s us L n) ?_ fun t ht=>?_
          · rw [full i (by omega)]
            exact qQo n happ
          · rw [full i (by omega)]
            refine qQp n (fun j hj hu=>?_) happ
            obtain ⟨b',hb'⟩:=getn j hj
            have hbd:b'.dst=some t:=by rw [←(dstOf j b' hj hb').1];exact hu
            exact diff j b' hj hb' (.inl (by simp [qHq,hbd,qFl ht]))
  intro io F a w hs
  obtain ⟨io',hs'⟩:=SR.kills ks io (fun k hk=>by
    simp only [List.all_eq_true] at hKs
    have:=hKs k hk
    simpa [List.contains_eq_mem] using this) hs
  exact main io' F a w hs'
def awpA(ks:List Nat)(X:Ctx)(all:Array Oper)(pre rest:List Oper)(Q:Exit->St->Prop)(s:St):Prop:=∃s1,PRunA X all ks pre s s1∧awpL X all rest Q s1
def isSl(o:Oper):Bool:=match o.op with| .slice .. =>true|_=>false
def freeOp(s:St)(o:Oper):Bool:=qFb o||isSl o||(qEs o&&(match keyOf s o with|none=>true|_=>false))
def SrcB(X:Ctx)(β:Nat->Option Blk)(y:V)(sz:Nat){α:Type}(e:α->List D)(z:α)(l:List α):Prop:=∀s':St,s'.blk=β->qSu X s' y sz e l
section
variable {X:Ctx} {all:Array Oper} {Q:Exit->St->Prop} {s:St} {o:Oper} {pre rest:List Oper} {ks:List Nat}
theorem awpA_nil(h:awpL X all rest Q s):awpA ks X all [] rest Q s:=⟨s,.nil,h⟩
theorem qOp{s':St}{y:Option Operand}(h:∀z,y=some z->s'.opd z=s.opd z):optI s' y=optI s y:=by
 cases y with
 |none=>rfl
 |some z=>simp only [optI,h z rfl]
theorem qJs{T:TypeId->Option TyD}{m:Bool}{s':St}(hm:isSl o=true)(h:∀t∈o.looksAt all,s'.tmps t=s.tmps t):qFy T m s' o.op=qFy T m s o.op:=by
 have hop:=fun y hy=>qCc (s:=s) (s':=s') (o:=o) (all:=all) (y:=y) hy h
 unfold isSl at hm
 split at hm
 ·rename_i t x lo hi mx e
  rw [e] at hop ⊢
  have h1:=hop x (by simp [Op.operands])
  have h2:optI s' lo=optI s lo:=qOp fun z hz=>hop z (by subst hz;simp [Op.operands])
  have h3:optI s' hi=optI s hi:=qOp fun z hz=>hop z (by subst hz;simp [Op.operands])
  have h4:optI s' mx=optI s mx:=qOp fun z hz=>hop z (by subst hz;simp [Op.operands])
  simp only [qFy,h1,h2,h3,h4]
 ·cases hm
theorem stepAQ{d:Tmp}{C:Prop}{x:V}(m:Bool)(hk:Nat.beq (opK o.op) 0=true)(hg:gd all s o=some true)(hdst:o.dst=some d)(hd:qB5 X.N (some d)=true)(hq:qP5 X.T m s o.op=some (C,x))(hC:C)(hfr:freeOp s o=true)(hna:isApp o=false)(hf:(ks.all fun k=>x.noKey k)=true)(k:awpA ks X all pre rest Q (s.put (some d) x)):awpA ks X all (o::pre) rest Q s:=by
 rw [←hdst] at hd k
 obtain ⟨s1,h1,h2⟩:=k
 refine ⟨s1,.reg hd (fun s' hs'=>m_q m ((qC3 hs').trans hg) ?_ hC) hna hf h1,h2⟩
 rw [qGe] at hq ⊢
 unfold freeOp at hfr
 rw [Bool.or_eq_true,Bool.or_eq_true] at hfr
 rcases hfr with (hfr|hfr)|hfr
 ·rw [qI6 hfr hs'];exact hq
 ·rw [qJs hfr hs'];exact hq
 ·rw [Bool.and_eq_true] at hfr
  refine qLn hfr.1 hq hs' fun k b hkey _=>?_
  rw [hkey] at hfr
  cases hfr.2
theorem stepALit{d:Tmp}{e:TypeId}{sz len:Nat}{rows:List (List D)}(hkk:Nat.beq (opK o.op) 5=true)(h:qO1 X.T s o.op=some (e,sz,len,rows))(hdst:o.dst=some d)(hg:gd all s o=some true)(hd:qB5 X.N (some d)=true)(k:awpA ks X all pre rest Q (s.put (some d) (.d (.sl sz (nth [] rows) 0 (iota len 0))))):awpA ks X all (o::pre) rest Q s:=by
 rw [←hdst] at hd k
 obtain ⟨s1,h1,h2⟩:=k
 have hna:isApp o=false:=by
  unfold isApp
  split
  ·rename_i c e'
   rw [e'] at h
   cases h
  ·rfl
 refine ⟨s1,.reg hd (fun s' hs'=>m_lit (e:=e) X.ok ((qC3 hs').trans hg) ?_) hna (by simp [V.noKey]) h1,h2⟩
 have hop:=fun y hy=>qCc (s:=s) (s':=s') (o:=o) (all:=all) (y:=y) hy hs'
 revert h
 cases he:o.op with
 |buildSlice t n parts=>
  rw [he] at hop
  have e1:(parts.toList.map fun p=>(p.1,s'.opd p.2))=parts.toList.map fun p=>(p.1,s.opd p.2):=List.map_congr_left fun p hp=>by
   rw [hop p.2 (by simp only [Op.operands];simp;exact ⟨p.1,by simpa using hp⟩)]
  simp only [qO1,e1]
  exact id
 |_=>intro h;cases h
theorem qPt{s':St}{c:Call}(hop:o.op= .call c)(h:∀t∈o.looksAt all,s'.tmps t=s.tmps t):qCj s' c=qCj s c∧c.args.toList.map s'.opd=c.args.toList.map s.opd:=by
 have ho:=fun y hy=>qCc (s:=s) (s':=s') (o:=o) (all:=all) (y:=y) hy h
 rw [hop] at ho
 constructor
 ·unfold qCj
  cases hc:c.callee with
  |value y=>
   have:=ho y (by simp only [Op.operands,Call.operands,hc];simp)
   simp only [this]
  |_=>rfl
 ·exact List.map_congr_left fun y hy=>ho y (by simp only [Op.operands,Call.operands];simp;right;simpa using hy)
theorem clA{c:Call}{caps:List V}{ds ds':List D}{r:D}{d:Tmp}(f:FuncId)(hcf:qJw s o.op f=true)(hop:o.op= .call c)(hc:qCj s c=some (f,caps))(hdst:o.dst=some d)(hr:Ret X.P f ds' (·=r))(k:awpA ks X all pre rest Q (s.put (some d) (.d r)))(hg:gd all s o=some true:=by exact rfl)(hd:qB5 X.N (some d)=true:=by exact rfl)(ha:allD (c.args.toList.map s.opd++caps)=some ds:=by exact rfl)(le:LeT ds ds':=by exact Go.Vw.leT):awpA ks X all (o::pre) rest Q s:=by
 rw [←hdst] at hd k
 obtain ⟨s1,h1,h2⟩:=k
 have hna:isApp o=false:=by
  unfold isApp
  rw [hop]
  unfold qCj at hc
  split at hc
  ·rename_i y e;simp only [e]
  ·cases hc
 refine ⟨s1,.reg hd (fun s' hs'=>?_) hna (by simp [V.noKey]) h1,h2⟩
 obtain ⟨e1,e2⟩:=qPt (s:=s) hop hs'
 exact m_callR ((qC3 hs').trans hg) hop (e1.trans hc) (by rw [e2];exact ha) le hr
theorem srcB_d{β:Nat->Option Blk}{sz:Nat}{α:Type}{e:α->List D}{z:α}{l:List α}:SrcB X β (.d (.sl sz e z l)) sz e z l:=fun s' _=>src_data (LeD.refl _)
theorem srcB_lit{β:Nat->Option Blk}{sz n:Nat}{α:Type}{e:α->List D}{z:α}{rows:List (List D)}{a:α}{l:List α}(hn:rows.length=n)(h:LeR sz rows e (a::l)):SrcB X β (.d (.sl sz (nth [] rows) 0 (iota n 0))) sz e z (a::l):=fun s' _=>src_lit hn h
theorem srcB{β:Nat->Option Blk}{y:V}{sz:Nat}{α:Type}{e:α->List D}{z:α}{l:List α}(h:SrcB X β y sz e z l:=by
 first
 |exact Go.Vw.srcB_lit rfl (Go.Vw.LeR.cons rfl Go.Vw.leL Go.Vw.LeR.nil)
 |exact Go.Vw.srcB_own rfl
 |exact Go.Vw.srcB_d
 |fail):SrcB X β y sz e z l:=h
theorem stepAApp{d:Tmp}{td ed:TyD}{α:Type}{en:α->List D}{z:α}{l l2:List α}{t:TypeId}{c:Call}{x y:Operand}{e:TypeId}{k n:Nat}(hkk:Nat.beq (opK o.op) 3=true)(hop:o.op= .call c)(hc:c=⟨.builtin .append, #[x,y], #[t,t]⟩)(hdst:o.dst=some d)(hg:gd all s o=some true)(hd:qB5 X.N (some d)=true)(ht:X.T t=some td)(hds:td.desc= .slice e)(he:X.T e=some ed)(hx:s.opd x= .own k 0 n e ed.size)(hK:X.K.contains k=false)(hks:ks.contains k=true)(hk:s.blk k=some (.data e ed.size en z l))(hz:qF0 ed=true)(hn:n=l.length)(hy:SrcB X s.blk (s.opd y) ed.size en z l2)(hb:l.length+l2.length≤9223372036854775807∧(l.length+l2.length)*ed.bytes≤140737488355328)(r:awpA ks X all pre rest Q ((s.new k (.data e ed.size en z (l++l2))).put (some d) (.own k 0 (l++l2).length e ed.size))):awpA ks X all (o::pre) rest Q s:=by
 obtain ⟨dst,op,ty,pos,after,g⟩:=o
 cases hop;cases hdst;subst hc
 obtain ⟨s1,h1,h2⟩:=r
 refine ⟨s1,.app rfl rfl hks (fun s' hb' htm=>?_) h1,h2⟩
 have e2:=qCc (o:=⟨some d,.call ⟨.builtin .append, #[x,y], #[t,t]⟩,ty,pos,after,g⟩) (all:=all) (y:=y) (by simp [Op.operands,Call.operands]) htm
 exact e_append X.ok ((qC3 htm).trans hg) hd ht hds he hK ((qCc (by simp [Op.operands,Call.operands]) htm).trans hx) (by rw [hb'];exact hk) hn (by rw [e2];exact hy s' hb') hz hb
theorem new_new{s:St}{k:Nat}{b b':Blk}:(s.new k b).new k b'=s.new k b':=by
 refine St.eta (funext fun t=>?_) (funext fun j=>?_) ?_
 ·show ((s.tmps t).sub k none).sub k none=(s.tmps t).sub k none
  exact V.sub_noKey _ (V.noKey_sub _)
 ·simp only [St.new,St.withBlk,St.sub]
  cases Nat.beq j k with
  |true=>rfl
  |false=>
   simp only [cond_false]
   cases s.blk j with
   |none=>rfl
   |some b0=>simp only [Blk.sub_noKey (Blk.noKey_sub b0)]
 ·show qNz k none (qNz k none s.dfs)=qNz k none s.dfs
  exact dfSub_no dfNo_sub
theorem stepAAppNil{d:Tmp}{td ed:TyD}{α:Type}{en:α->List D}{z:α}{l2:List α}{t:TypeId}{c:Call}{x y:Operand}{e:TypeId}(hkk:Nat.beq (opK o.op) 3=true)(hop:o.op= .call c)(hc:c=⟨.builtin .append, #[x,y], #[t,t]⟩)(hdst:o.dst=some d)(hg:gd all s o=some true)(hd:qB5 X.N (some d)=true)(ht:X.T t=some td)(hds:td.desc= .slice e)(he:X.T e=some ed)(hx:s.opd x= .d .nils)(hK:X.K.contains d=false)(hks:ks.contains d=true)(hz:qF0 ed=true)(hy:SrcB X s.blk (s.opd y) ed.size en z l2)(hb:l2.length≤9223372036854775807∧l2.length*ed.bytes≤140737488355328)(r:awpA ks X all pre rest Q ((s.new d (.data e ed.size en z l2)).put (some d) (.own d 0 l2.length e ed.size))):awpA ks X all (o::pre) rest Q s:=by
 obtain ⟨dst,op,ty,pos,after,g⟩:=o
 cases hop;cases hdst;subst hc
 obtain ⟨s1,h1,h2⟩:=r
 refine ⟨s1,.app rfl rfl hks (fun s' hb' htm=>?_) h1,h2⟩
 have e2:=qCc (o:=⟨some d,.call ⟨.builtin .append, #[x,y], #[t,t]⟩,ty,pos,after,g⟩) (all:=all) (y:=y) (by simp [Op.operands,Call.operands]) htm
 have:=e_appnil (z:=z) X.ok ((qC3 htm).trans hg) hd ht hds he hK ((qCc (by simp [Op.operands,Call.operands]) htm).trans hx) (by rw [e2];exact hy s' hb') hz hb
 rwa [new_new] at this
theorem goAp{G:Prop}{ops:List Oper}(k:G)(h:G->awpA ks X all ops rest Q s:=by
 first
 |exact Go.Vw.stepAQ true Go.Vw.tt Go.Vw.stt rfl rfl rfl Go.Vw.sc rfl rfl rfl
 |exact Go.Vw.awpA_nil
 |exact Go.Vw.stepAQ false Go.Vw.tt Go.Vw.stt rfl rfl rfl Go.Vw.sc rfl rfl rfl
 |exact Go.Vw.stepALit Go.Vw.tt rfl rfl rfl rfl
 |exact Go.Vw.stepAApp Go.Vw.tt rfl rfl rfl rfl rfl rfl rfl rfl rfl rfl rfl rfl rfl Go.Vw.sc Go.Vw.srcB Go.Vw.sc
 |exact Go.Vw.stepAAppNil Go.Vw.tt rfl rfl rfl rfl rfl rfl rfl rfl rfl rfl rfl rfl Go.Vw.srcB Go.Vw.sc
 |fail):awpA ks X all ops rest Q s:=h k
theorem awp_regA(id n:Nat)(ks:List Nat){ops:List Oper}(h:awpA ks X ops.toArray (ops.take n) (ops.drop n) Q (s.kills ks))(hm:X.P.follows .mixedOrders=true)(hok:ordA ops.toArray n=true)(hK:(ks.all fun k=> !(X.K.contains k))=true)(hdf:s.dfs=[]):awp X (.region id ops.toArray true) Q s:=by
 obtain ⟨s1,h1,h2⟩:=h
 exact qTj hm n ks hok hK hdf h1 h2
end
theorem drt_toV{io:Keys}{F:Nat->Prop}{w:World}{g:Nat->Option Value}:∀{ds:List D} {off:Nat},DRT F w g off ds->VRT io F w g off (ds.map V.d)
 |[],_,_=>by simp only [List.map_nil,VRT]
 |d::ds,off,h=>by
  simp only [DRT] at h
  simp only [List.map_cons,VRT,VR]
  exact ⟨h.1,drt_toV h.2⟩
theorem RetB.toRet{P:Program}{f:FuncId}{ds:List D}{bs':List (Nat×Blk)}{y:V}(h:RetB P f (ds.map V.d) (qAh []) y (qAh bs'))(m:Bool){C:Prop}{d:D}(ha:V.asD m (St.of [] bs') y=some (C,d))(hC:C):Ret P f ds (·=d):=by
 refine ⟨h.enters,fun F w vs hF hl hv=>?_⟩
 have hno:∀io b,¬OwnA (qAh []) io b:=fun io b ⟨k,hk,_⟩=>hk rfl
 refine (h.run (fun _=>none) F w vs hF (by simpa using hl) (drt_toV hv) ⟨fun k b hk=>(by cases hk),fun k k' b e1=>absurd rfl e1⟩).mono fun e w' ⟨v,io',F',he,g1,g2,g3,g4,g5,g6⟩=>?_
 have hkeys:(St.of [] bs').keys io'=⟨io',lnO (qAh bs')⟩:=by
  show (⟨io',(St.of [] bs').ln⟩:Keys)=_
  rw [lnO_eq];rfl
 have hb:∀k b,(St.of [] bs').blk k=some b->BR (OwnA (qAh []) fun _=>none) w.heap.size ((St.of [] bs').keys io') F' w' k b:=fun k b hk=>by
  rw [hkeys];exact g6.br k b hk
 refine ⟨v,d,Lent (St.of [] bs') io' F',he,rfl,⟨g1.os,g1.tape,g1.output,g1.size,fun b hb=>g1.block b hb (hno _ b)⟩,fun b hb=>.inl (g2 b hb),fun b hb'=>?_,qN7 hb y v ha hC (by rw [hkeys];exact g5)⟩
 rcases hb' with h1|⟨k,hk,e1⟩
 ·obtain ⟨h2,h3⟩:=g3 b h1
  rcases h3 with h3|h3|h3
  ·exact .inl h3
  ·exact .inr ⟨h3,h2⟩
  ·exact absurd h3 (hno _ b)
 ·obtain ⟨b0,hb0⟩:=Option.ne_none_iff_exists'.1 hk
  obtain ⟨_,h2,h3⟩:=(hb k b0 hb0).notF e1
  rcases h2 with h2|h2
  ·exact absurd h2 (hno _ b)
  ·exact .inr ⟨h2,h3⟩
end Go.Vw
namespace Go.Vw
theorem between{a b c:Rat}(h:a≤b)(h0:0≤c)(h1:c≤1):a≤c*a+(1-c)*b∧c*a+(1-c)*b≤b:=by
 have e1:=Rat.mul_nonneg (show 0≤1-c by grind) (show 0≤b-a by grind)
 have e2:=Rat.mul_nonneg h0 (show 0≤b-a by grind)
 constructor<;>grind
def sumQ(l:List Rat):Rat:=l.foldl (fun s x=>s+x) 0
def meanQ(l:List Rat):Rat:=sumQ l/((l.length:Int):Rat)
theorem qVe:∀(l:List Rat) (a:Rat),l.foldl (fun s x=>s+x) a=a+l.foldl (fun s x=>s+x) 0
 |[],a=>by simp [Rat.add_zero]
 |x::l,a=>by rw [List.foldl_cons,List.foldl_cons,qVe l (a+x),qVe l (0+x),Rat.zero_add,Rat.add_assoc]
theorem sumQ_cons(x:Rat)(l:List Rat):sumQ (x::l)=x+sumQ l:=by
 unfold sumQ
 rw [List.foldl_cons,qVe,Rat.zero_add]
theorem sumQ_nil:sumQ []=0:=rfl
theorem takeQ_ok{k:Nat}{l:List Rat}(h:∀q∈l,okQ k q)(i:Nat):∀q∈l.take i,okQ k q:=fun q hq=>h q (List.mem_of_mem_take hq)
def qPp(l:List Rat):Nat->List Rat
 |0=>[]
 |k+1=>qPp l k++(l.take (k+1)).map fun x=>(x+l.getD k 0)/2
def qnTake(l:List Rat):Nat->List Rat
 |0=>[]
 |k+1=>qnTake l k++distQ (l.take k) (l.getD k 0)
def hlL(l:List Rat):List Rat:=qPp l l.length
def qnL(l:List Rat):List Rat:=qnTake l l.length
def qnQ(l:List Rat):Rat:=(srt (qnL l)).getD ((l.length/2+1)*(l.length/2+1-1)/2-1) 0
theorem qUp(l:List Rat):∀k,k≤l.length->2*(qPp l k).length=k*(k+1)
 |0,_=>rfl
 |k+1,h=>by
  have:=qUp l k (by omega)
  rw [qPp,List.length_append,List.length_map,List.length_take,Nat.mul_add,this,show min (k+1) l.length=k+1 by omega,←Nat.add_mul,Nat.mul_comm]
theorem hlL_len{l:List Rat}(h:l.length≤12)(h0:0<l.length):(hlL l).length≤78∧0<(hlL l).length:=by
 have:=qUp l l.length (Nat.le_refl _)
 unfold hlL
 generalize (qPp l l.length).length=m at *
 generalize l.length=n at *
 have:n=1∨n=2∨n=3∨n=4∨n=5∨n=6∨n=7∨n=8∨n=9∨n=10∨n=11∨n=12:=by omega
 rcases this with rfl|rfl|rfl|rfl|rfl|rfl|rfl|rfl|rfl|rfl|rfl|rfl<;>omega
def winL(s:List Rat)(g:Nat):Nat->List Rat
 |0=>s
 |i+1=>((winL s g i).set i ((winL s g i).getD g 0)).set (s.length-1-i) ((winL s g i).getD (s.length-1-g) 0)
theorem qU9(s:List Rat)(g:Nat):∀i,(winL s g i).length=s.length
 |0=>rfl
 |i+1=>by rw [winL,List.length_set,List.length_set,qU9 s g i]
theorem qUe{l:List Rat}{i:Nat}{a q:Rat}(h:q∈l.set i a):q=a∨q∈l:=(List.mem_or_eq_of_mem_set h).symm
theorem winL_mem(s:List Rat)(g:Nat)(hg:g<s.length):∀i,∀q∈winL s g i,q∈s
 |0,q,hq=>hq
 |i+1,q,hq=>by
  have ih:=winL_mem s g hg i
  have hl:=qU9 s g i
  have hin:∀k,k<s.length->(winL s g i).getD k 0∈winL s g i:=fun k hk=>by
   rw [List.getD_eq_getElem?_getD,List.getElem?_eq_getElem (by omega),Option.getD_some]
   exact List.getElem_mem _
  rw [winL] at hq
  rcases qUe hq with rfl|hq
  ·exact ih _ (hin _ (by omega))
  ·rcases qUe hq with rfl|hq
   ·exact ih _ (hin _ hg)
   ·exact ih _ hq
def trimR(l:List Rat)(g:Nat):List Rat:=((srt l).drop g).take (l.length-g-g)
def trimQ(l:List Rat)(g:Nat):Rat:=meanQ (trimR l g)
def winQ(l:List Rat)(g:Nat):Rat:=meanQ (winL (srt l) g g)
def posQ(x:Rat):List Rat->Nat
 |[]=>0
 |y::s=>if x<y then 0 else posQ x s+1
theorem posQ_le(x:Rat):∀s:List Rat,posQ x s≤s.length
 |[]=>Nat.le_refl _
 |y::s=>by
  unfold posQ
  split
  ·exact Nat.zero_le _
  ·have:=posQ_le x s
   rw [List.length_cons]
   omega
theorem posQ_drop(x:Rat){s:List Rat}{a:Nat}(h:a<s.length):posQ x (s.drop a)=if x<s.getD a 0 then 0 else posQ x (s.drop (a+1))+1:=by
 rw [List.drop_eq_getElem_cons h,List.getD_eq_getElem?_getD,List.getElem?_eq_getElem h,Option.getD_some]
 rfl
theorem posQ_end(x:Rat){s:List Rat}{a:Nat}(h:¬a<s.length):posQ x (s.drop a)=0:=by
 rw [List.drop_eq_nil_of_le (by omega)]
 rfl
def insQ(x:Rat)(s:List Rat):List Rat:=s.take (posQ x s)++[x]++s.drop (posQ x s)
theorem insQ_cons(x y:Rat)(s:List Rat):insQ x (y::s)=if x<y then x::y::s else y::insQ x s:=by
 unfold insQ
 rw [posQ]
 split
 ·simp
 ·simp
theorem insQ_perm(x:Rat)(s:List Rat):(insQ x s).Perm (x::s):=by
 unfold insQ
 have h:(s.take (posQ x s)++s.drop (posQ x s))=s:=List.take_append_drop ..
 rw [List.append_assoc,List.singleton_append]
 refine List.perm_middle.trans ?_
 rw [h]
theorem insQ_asc(x:Rat):∀{s:List Rat},AscQ s->AscQ (insQ x s)
 |[],_=>by simp [insQ,posQ,AscQ]
 |y::s,h=>by
  rw [insQ_cons]
  have hy:=List.pairwise_cons.1 h
  split
  ·rename_i hlt
   refine List.pairwise_cons.2 ⟨fun z hz=>?_,h⟩
   rcases List.mem_cons.1 hz with rfl|hz
   ·exact Rat.le_of_lt hlt
   ·exact Rat.le_trans (Rat.le_of_lt hlt) (hy.1 z hz)
  ·rename_i hlt
   refine List.pairwise_cons.2 ⟨fun z hz=>?_,insQ_asc x hy.2⟩
   rcases List.mem_cons.1 ((insQ_perm x s).subset hz) with rfl|hz
   ·exact Rat.not_lt.1 hlt
   ·exact hy.1 z hz
theorem ins_srt{l:List Rat}{i:Nat}(h:i<l.length):insQ (l.getD i 0) (srt (l.take i))=srt (l.take (i+1)):=by
 refine qLe (insQ_asc _ (qL8 _)) ((insQ_perm _ _).trans ?_)
 rw [List.take_add_one,List.getElem?_eq_getElem h,List.getD_eq_getElem?_getD,List.getElem?_eq_getElem h]
 simp only [Option.toList_some,Option.getD_some]
 exact ((qD3 (l.take i)).cons _).trans (List.perm_append_singleton ..).symm
theorem gRv{vs:List R3}{i:Nat}(h:i<vs.length):(vs.map rv).getD i 0=rv (vs.getD i r0):=by
 simp [List.getD_eq_getElem?_getD,h]
theorem gMem{vs:List R3}{i:Nat}{p:R3->Prop}(h:∀r∈vs,p r)(hi:i<vs.length):p (vs.getD i r0):=by
 have e:vs.getD i r0=vs[i]:=by simp [List.getD_eq_getElem?_getD,hi]
 rw [e];exact h _ (List.getElem_mem hi)
end Go.Vw
namespace Go.Proofs.YtejigedigmagdaaGreat
open Go.Vw
attribute [local irreducible] awp awpL awpR
abbrev qB(l:List Rat):Blk:=.data 27 3 qC 0 l
abbrev qO(n:Nat):V:=.own 500 0 n 27 3
theorem qEn{k o n n':Nat}{ty:TypeId}{sz:Nat}(h:n=n'):V.own k o n ty sz=V.own k o n' ty sz:=by rw [h]
theorem qdEq{l l':List Rat}(h:l=l'):V.d (.sl 3 qC 0 l)=V.d (qsD l'):=by rw [h]
theorem srt_nil:srt []=[]:=by simp [srt]
theorem order_SortB(l:List R3)(hn:l.length≤12)(hl:∀r∈l,RatOk r 1000):RetB Tryz.prog 132 [.d (rsD l)] (qAh []) (qO l.length) (qAh [(500,qB (srt (l.map rv)))]):=by
 have hq:∀q∈l.map rv,okQ 1000 q:=fun q hq=>by
  obtain ⟨r,hr,rfl⟩:=List.mem_map.1 hq
  exact qAx (hl r hr) (by decide)
 have h0:=qQu (l.map rv) (by rw [List.length_map];exact hn) hq
 rw [List.length_map] at h0
 have h:RetB Tryz.prog 172 [.own 500 0 l.length 27 3,.fn 109 []] (qAh [(500,.data 27 3 qC 0 (l.map rv))]) (.tup []) (qAh [(500,.data 27 3 qC 0 (srt (l.map rv)))]):=h0.ren [(1000,500)]
 have hs:(srt (l.map rv)).length=l.length:=by rw [qE2,List.length_map]
 clear h0 hq
 refine qBa tab [] Tryz.func132 rfl rfl rfl (lblz rfl) rfl trivial (fun w0 F0 A io0=>?_)
 repeat' (first|refine wG ?_|refine wS ?_ ?_<;>intro _|refine wB ?_ ?_)
 refine qB3 3 500 27 3 qC 0 rfl ?_
 refine qAi (fun (i:Nat)=>([(3,.own 500 0 ((l.map rv).take i).length 27 3),(6,.d (rsD l)),(7,.d (.int .i64 l.length)),(8,.d (.int .i64 i))],[(500,.data 27 3 qC 0 ((l.map rv).take i))])) (fun i=>i≤l.length) (fun i=>l.length-i) 0 (by omega) ⟨rfl,rfl,rfl,rfl,rfl⟩ ⟨rfl,trivial⟩ (fun i hi=>?_)
 have hlen:((l.map rv).take i).length=i:=by simp;omega
 by_cases h3:i<l.length
 ·have g1:l.getD i r0∈l:=by rw [List.getD,List.getElem?_eq_getElem h3];exact List.getElem_mem h3
  have ha:=qC2 (l.getD i r0) r0 ((hl _ g1).up (by decide)) (ok_r0 (by decide))
  rw [rv_r0,Rat.add_zero] at ha
  have e:(l.map rv).take i++[rv (l.getD i r0)]=(l.map rv).take (i+1):=by
   rw [List.take_add_one]
   simp [h3,List.getD,List.getElem?_eq_getElem h3]
  clear h hs
  repeat' (first|refine wG ?_|refine wC ha ?_|refine wS ?_ ?_<;>intro _|refine wB ?_ ?_)
  exact ⟨i+1,by omega,by omega,⟨by rw [←e];rfl,rfl,rfl,iv (by omega),rfl⟩,by rw [←e];rfl,trivial⟩
 ·have e:(l.map rv).take i=l.map rv:=List.take_of_length_le (by rw [List.length_map];omega)
  rw [e] at hlen ⊢
  rw [List.length_map]
  generalize srt (l.map rv)=s at *
  repeat' (first|refine wG ?_|refine wD [] h ?_|refine wS ?_ ?_<;>intro _|refine wB ?_ ?_)
  all_goals first|exact leVT|exact ⟨rfl,trivial⟩
theorem ref16_SortB(l:List R3)(hn:l.length≤200)(hl:∀r∈l,RatOk r 1000):RetB Tryz.prog 20 [.d (rsD l)] (qAh []) (qO l.length) (qAh [(500,qB (srt (l.map rv)))]):=by
 have hq:∀q∈l.map rv,okQ 1000 q:=fun q hq=>by
  obtain ⟨r,hr,rfl⟩:=List.mem_map.1 hq
  exact qAx (hl r hr) (by decide)
 refine qBa tab [] Tryz.func20 rfl rfl rfl (lblz rfl) rfl trivial (fun w0 F0 A io0=>?_)
 repeat' (first|refine wG ?_|refine rg 6 13 ?_|refine rg 8 14 ?_|refine wS ?_ ?_<;>intro _|refine wB ?_ ?_)
 refine qB3 3 500 27 3 qC 0 rfl ?_
 refine qAi (fun (i:Nat)=>([(0,.d (rsD l)),(3,qO i),(4,.d (.int .i64 i))],[(500,qB (srt ((l.map rv).take i)))])) (fun i=>i≤l.length) (fun i=>l.length-i) 0 (by omega) ⟨rfl,rfl,rfl,rfl⟩ ⟨qBr (by rw [List.take_zero,srt_nil]),trivial⟩ (fun i hi=>?_)
 have hlen:=qE2 ((l.map rv).take i)
 rw [List.length_take,List.length_map,show min i l.length=i by omega] at hlen
 by_cases h3:i<l.length
 ·have g1:=gMem hl h3
  have ho:=srt_ok (takeQ_ok hq i)
  have hins:=ins_srt (l:=l.map rv) (i:=i) (by rw [List.length_map];exact h3)
  rw [gRv h3] at hins
  generalize srt ((l.map rv).take i)=s at *
  obtain ⟨s2,hs2⟩:∃s2,srt ((l.map rv).take (i+1))=s2:=⟨_,rfl⟩
  rw [hs2] at hins
  obtain ⟨p,hp⟩:∃p,posQ (rv (l.getD i r0)) s=p:=⟨_,rfl⟩
  have hp2:=posQ_le (rv (l.getD i r0)) s
  unfold insQ at hins
  rw [hp] at hp2 hins
  repeat' (first|refine qSw 6 tt ?_|refine wG ?_|refine rg 6 13 ?_|refine rg 8 14 ?_|refine wS ?_ ?_<;>intro _|refine wB ?_ ?_)
  refine qId ?_
  refine awp_meet1 (fun (_:Unit)=>([(0,.d (rsD l)),(3,qO i),(4,.d (.int .i64 i)),(5,.d (.int .i64 p))],[(500,qB s)])) (fun _=>True) (fun _ _=>?_) ?_
  rotate_left
  ·repeat' (first|refine wG ?_|refine rg 6 13 ?_|refine rg 8 14 ?_|refine wS ?_ ?_<;>intro _|refine wB ?_ ?_)
   refine qAi (fun (a:Nat)=>([(0,.d (rsD l)),(3,qO i),(4,.d (.int .i64 i)),(5,.d (.int .i64 a))],[(500,qB s)])) (fun a=>a≤i∧posQ (rv (l.getD i r0)) (s.drop a)+a=p) (fun a=>i-a) 0 ⟨by omega,hp⟩ ⟨rfl,rfl,rfl,rfl,rfl⟩ ⟨rfl,trivial⟩ (fun a ha=>?_)
   obtain ⟨a1,a2⟩:=ha
   by_cases c1:a<i
   ·have lt:=qEh (l.getD i r0) (rq (s.getD a 0)) (g1.up (by decide)) (qAs ((getD_ok ho (by omega)).mono (by decide)))
    rw [qAw] at lt
    rw [posQ_drop _ (show a<s.length by omega)] at a2
    by_cases g:rv (l.getD i r0)<s.getD a 0
    ·rw [if_pos g,Nat.zero_add] at a2
     rw [decide_eq_true g] at lt
     subst a2
     repeat' (first|refine wG ?_|refine wC lt ?_|refine rg 6 13 ?_|refine rg 8 14 ?_|refine wS ?_ ?_<;>intro _|refine wB ?_ ?_)
     exact ⟨(),trivial,⟨rfl,rfl,rfl,rfl,rfl⟩,rfl,trivial⟩
    ·rw [if_neg g] at a2
     rw [decide_eq_false g] at lt
     repeat' (first|refine wG ?_|refine wC lt ?_|refine rg 6 13 ?_|refine rg 8 14 ?_|refine wS ?_ ?_<;>intro _|refine wB ?_ ?_)
     exact ⟨a+1,⟨by omega,by omega⟩,by omega,⟨rfl,rfl,rfl,iv (by omega),rfl⟩,rfl,trivial⟩
   ·rw [posQ_end _ (show ¬a<s.length by omega),Nat.zero_add] at a2
    subst a2
    repeat' (first|refine wG ?_|refine rg 6 13 ?_|refine rg 8 14 ?_|refine wS ?_ ?_<;>intro _|refine wB ?_ ?_)
    exact ⟨(),trivial,⟨rfl,rfl,rfl,rfl,rfl⟩,rfl,trivial⟩
  clear hp
  have tk:=qB0 (l.getD i r0) (g1.up (by decide))
  have ecut:cut 0 i s=s:=by rw [←hlen];exact cut_all s
  refine awp_frz 500 rfl ?_
  refine qN6 [(0,.d (rsD l)),(3,.d (qsD s)),(4,.d (.int .i64 i)),(5,.d (.int .i64 p))] [] ⟨rfl,qdEq ecut,rfl,rfl,rfl⟩ trivial ?_
  repeat' (first|refine qSw 4 tt ?_|refine wG ?_|refine wC tk ?_|refine awp_regA 8 14 [33] ?_ mixed (by kernel_rfl) rfl rfl|(show awpA _ _ _ _ _ _ _;first|refine goAp ?_|refine clA 67 tt rfl rfl rfl (hr:=tk) (k:=?_))|refine rg 6 13 ?_|refine rg 8 14 ?_|refine wS ?_ ?_<;>intro _|refine wB ?_ ?_)
  refine qId ?_
  refine awp_rename [(0,.d (rsD l)),(3,.own 33 0 (i+1) 27 3),(4,.d (.int .i64 i))] [(33,qB s2)] [(33,500)] ⟨rfl,qEn (by simp<;>omega),rfl,rfl⟩ ⟨qBr (by rw [←hins]),trivial⟩ ?_
  repeat' (first|refine wG ?_|refine rg 6 13 ?_|refine rg 8 14 ?_|refine wS ?_ ?_<;>intro _|refine wB ?_ ?_)
  exact ⟨i+1,by omega,by omega,⟨rfl,rfl,iv (by omega),rfl⟩,qBr hs2.symm,trivial⟩
 ·have e:(l.map rv).take i=l.map rv:=List.take_of_length_le (by rw [List.length_map];omega)
  have hi':i=l.length:=by omega
  subst hi'
  rw [e] at hlen ⊢
  repeat' (first|refine wG ?_|refine rg 6 13 ?_|refine rg 8 14 ?_|refine wS ?_ ?_<;>intro _|refine wB ?_ ?_)
  all_goals first|exact leVT|exact ⟨rfl,trivial⟩
theorem ref16_Sort(l:List R3)(hn:l.length≤200)(hl:∀r∈l,RatOk r 1000):Ret Tryz.prog 20 [rsD l] (·=qsD (srt (l.map rv))):=
 (ref16_SortB l hn hl).toRet (ds:=[rsD l]) true rfl (by rw [qE2,List.length_map])
end Go.Proofs.YtejigedigmagdaaGreat
namespace Go.Vw
def cf(p:List Rat)(i:Nat):Rat:=p.getD i 0
@[simp] theorem cf_nil (i:Nat):cf [] i=0:=rfl
@[simp] theorem cf_zero (a:Rat) (p:List Rat):cf (a::p) 0=a:=rfl
@[simp] theorem cf_succ (a:Rat) (p:List Rat) (i:Nat):cf (a::p) (i+1)=cf p i:=rfl
theorem qCr{p:List Rat}{i:Nat}(h:p.length≤i):cf p i=0:=by simp [cf,List.getD_eq_getElem?_getD,h]
theorem qN4{p:List Rat}{i:Nat}(h:i<p.length):cf p i=p[i]:=by simp [cf,List.getD_eq_getElem?_getD,h]
theorem qMr{p:List Rat}{i n:Nat}:cf (p.take n) i=if i<n then cf p i else 0:=by
 unfold cf
 rw [List.getD_eq_getElem?_getD,List.getD_eq_getElem?_getD,List.getElem?_take]
 split<;>rfl
def Eqv(p q:List Rat):Prop:=∀i,cf p i=cf q i
theorem Eqv.refl(p:List Rat):Eqv p p:=fun _=>rfl
theorem Eqv.symm{p q:List Rat}(h:Eqv p q):Eqv q p:=fun i=>(h i).symm
theorem Eqv.trans{p q r:List Rat}(h:Eqv p q)(k:Eqv q r):Eqv p r:=fun i=>(h i).trans (k i)
def qAd:List Rat->List Rat
 |[]=>[]
 |a::p=>match qAd p with
  |[]=>if a=0 then [] else [a]
  |b::q=>a::b::q
theorem qBi:∀(p:List Rat) (i:Nat),cf (qAd p) i=cf p i
 |[],i=>rfl
 |a::p,i=>by
  have ih:=qBi p
  unfold qAd
  split
  ·rename_i h
   rw [h] at ih
   split
   ·rename_i ha
    subst ha
    cases i with
    |zero=>rfl
    |succ i=>rw [cf_succ,←ih];rfl
   ·cases i with
    |zero=>rfl
    |succ i=>rw [cf_succ,cf_succ,←ih]
  ·rename_i b q h
   rw [h] at ih
   cases i with
   |zero=>rfl
   |succ i=>rw [cf_succ,cf_succ];exact ih i
theorem qCf(p:List Rat):Eqv (qAd p) p:=qBi p
def Tr(p:List Rat):Prop:=p≠[]->cf p (p.length-1)≠0
theorem Tr.nil:Tr []:=fun h=>absurd rfl h
theorem qAl:∀(p:List Rat),Tr (qAd p)
 |[]=>Tr.nil
 |a::p=>by
  have ih:=qAl p
  unfold qAd
  split
  ·split
   ·exact Tr.nil
   ·rename_i h;exact fun _=>h
  ·rename_i b q h
   rw [h] at ih
   intro _
   have:=ih (by simp)
   simpa using this
theorem Tr.cf{p:List Rat}(h:Tr p)(h0:0<p.length):cf p (p.length-1)≠0:=h (fun e=>by rw [e] at h0;simp at h0)
theorem Tr.len_le{p q:List Rat}(h:Tr p)(k:∀i,q.length≤i->Vw.cf p i=0):p.length≤q.length:=by
 refine Nat.le_of_not_lt fun hl=>?_
 exact h.cf (by omega) (k _ (by omega))
theorem Tr.len_lt{p:List Rat}{n:Nat}(h:Tr p)(k:∀i,n≤i->Vw.cf p i=0):p.length≤n:=by
 refine Nat.le_of_not_lt fun hl=>?_
 exact h.cf (by omega) (k _ (by omega))
theorem Tr.ext{p q:List Rat}(hp:Tr p)(hq:Tr q)(h:Eqv p q):p=q:=by
 have e:p.length=q.length:=Nat.le_antisymm (hp.len_le fun i hi=>by rw [h i];exact qCr hi) (hq.len_le fun i hi=>by rw [←h i];exact qCr hi)
 refine List.ext_getElem e fun i h1 h2=>?_
 have:=h i
 rwa [qN4 h1,qN4 h2] at this
theorem qEg{p q:List Rat}(h:Eqv p q):qAd p=qAd q:=(qAl p).ext (qAl q) fun i=>by rw [qBi,qBi,h i]
theorem qAr{p:List Rat}(h:Tr p):qAd p=p:=(qAl p).ext h (qCf p)
theorem qIp(p:List Rat):qAd (qAd p)=qAd p:=qAr (qAl p)
theorem qAu(p:List Rat):(qAd p).length≤p.length:=(qAl p).len_le fun i hi=>by rw [qBi];exact qCr hi
theorem qQs{p:List Rat}{n:Nat}(hn:n≤p.length)(h1:∀i,n≤i->i<p.length->cf p i=0)(h2:0<n->cf p (n-1)≠0):qAd p=p.take n:=by
 refine (qAl p).ext (fun h=>?_) fun i=>?_
 ·have hl:(p.take n).length=n:=by rw [List.length_take];omega
  have h0:0<n:=Nat.pos_of_ne_zero fun e=>h (by subst e;simp)
  rw [hl,qMr,if_pos (by omega)]
  exact h2 h0
 ·rw [qBi,qMr]
  split
  ·rfl
  ·by_cases hi:i<p.length
   ·exact h1 i (by omega) hi
   ·exact qCr (by omega)
theorem qKe(p:List Rat):qAd p=[]↔∀i,cf p i=0:=⟨fun h i=>by rw [←qBi,h];rfl,fun h=>(qAl p).ext Tr.nil fun i=>by rw [qBi,h i];rfl⟩
theorem qLc{p:List Rat}{x:Rat}(h:x∈qAd p):x∈p:=by
 obtain ⟨i,hi,rfl⟩:=List.mem_iff_getElem.1 h
 have hl:=qAu p
 have:=qBi p i
 rw [qN4 hi,qN4 (by omega)] at this
 rw [this];exact List.getElem_mem _
def qAb:List Rat->Rat->Rat
 |[],_=>0
 |a::p,x=>qAb p x*x+a
theorem qSb:∀{p:List Rat} (x:Rat),(∀i,cf p i=0)->qAb p x=0
 |[],x,_=>rfl
 |a::p,x,h=>by
  have h0:=h 0
  rw [cf_zero] at h0
  rw [qAb,qSb x (fun i=>by have:=h (i+1);rwa [cf_succ] at this),h0]
  grind
theorem qE1:∀{p q:List Rat} (x:Rat),Eqv p q->qAb p x=qAb q x
 |[],q,x,h=>(qSb (p:=q) x (fun i=>(h i).symm)).symm
 |a::p,[],x,h=>qSb (p:=a::p) x (fun i=>h i)
 |a::p,b::q,x,h=>by
  have h0:a=b:=h 0
  have ih:=qE1 (p:=p) (q:=q) x (fun i=>h (i+1))
  rw [qAb,qAb,ih,h0]
theorem qAp(p:List Rat)(x:Rat):qAb (qAd p) x=qAb p x:=qE1 x (qCf p)
def addC:List Rat->List Rat->List Rat
 |[],q=>q
 |p,[]=>p
 |a::p,b::q=>(a+b)::addC p q
def smul(c:Rat)(p:List Rat):List Rat:=p.map (c* ·)
def qBn(k:Nat)(p:List Rat):List Rat:=List.replicate k 0++p
def negC(p:List Rat):List Rat:=smul (-1) p
def subC(p q:List Rat):List Rat:=addC p (negC q)
theorem qBg:∀(p q:List Rat) (i:Nat),cf (addC p q) i=cf p i+cf q i
 |[],q,i=>by simp only [addC,cf_nil];grind
 |a::p,[],i=>by simp only [addC,cf_nil];grind
 |a::p,b::q,0=>by simp [addC]
 |a::p,b::q,i+1=>by simp only [addC,cf_succ];exact qBg p q i
theorem qA6(c:Rat):∀(p:List Rat) (i:Nat),cf (smul c p) i=c*cf p i
 |[],i=>by simp [smul,Rat.mul_zero]
 |a::p,0=>by simp [smul]
 |a::p,i+1=>by have:=qA6 c p i;simpa [smul] using this
theorem cf_neg(p:List Rat)(i:Nat):cf (negC p) i= -cf p i:=by rw [negC,qA6];grind
theorem qJ9(p q:List Rat)(i:Nat):cf (subC p q) i=cf p i-cf q i:=by rw [subC,qBg,cf_neg];grind
theorem qBu(k:Nat)(p:List Rat)(i:Nat):cf (qBn k p) i=if i<k then 0 else cf p (i-k):=by
 unfold cf qBn
 rw [List.getD_eq_getElem?_getD,List.getD_eq_getElem?_getD]
 split
 ·rename_i h
  rw [List.getElem?_append_left (by simpa using h)]
  simp [h]
 ·rename_i h
  rw [List.getElem?_append_right (by simp;omega)]
  simp
theorem qBh:∀(p q:List Rat) (x:Rat),qAb (addC p q) x=qAb p x+qAb q x
 |[],q,x=>by simp only [addC,qAb];grind
 |a::p,[],x=>by simp only [addC,qAb];grind
 |a::p,b::q,x=>by simp only [addC,qAb,qBh p q x];grind
theorem qA4(c:Rat):∀(p:List Rat) (x:Rat),qAb (smul c p) x=c*qAb p x
 |[],x=>by simp [smul,qAb,Rat.mul_zero]
 |a::p,x=>by
  have ih:=qA4 c p x
  simp only [smul,List.map_cons,qAb] at ih ⊢
  rw [ih];grind
theorem qEj(p q:List Rat)(x:Rat):qAb (subC p q) x=qAb p x-qAb q x:=by rw [subC,qBh,negC,qA4];grind
def mulC:List Rat->List Rat->List Rat
 |[],_=>[]
 |a::p,q=>addC (smul a q) (0::mulC p q)
theorem qAg:∀(p q:List Rat) (x:Rat),qAb (mulC p q) x=qAb p x*qAb q x
 |[],q,x=>by simp only [mulC,qAb];grind
 |a::p,q,x=>by simp only [mulC,qBh,qA4,qAb,qAg p q x];grind
theorem qEq(a:Rat)(p q:List Rat):cf (mulC (a::p) q) 0=a*cf q 0:=by simp only [mulC,qBg,qA6,cf_zero];grind
theorem qC7(a:Rat)(p q:List Rat)(i:Nat):cf (mulC (a::p) q) (i+1)=a*cf q (i+1)+cf (mulC p q) i:=by simp only [mulC,qBg,qA6,cf_succ]
theorem qI2:∀(p:List Rat) (q:List Rat),(∀i,cf q i=0)->∀i,cf (mulC p q) i=0
 |[],q,h,i=>rfl
 |a::p,q,h,0=>by rw [qEq,h];grind
 |a::p,q,h,i+1=>by rw [qC7,h,qI2 p q h];grind
theorem qI3:∀(p:List Rat) {q q':List Rat},Eqv q q'->Eqv (mulC p q) (mulC p q')
 |[],q,q',h=>Eqv.refl _
 |a::p,q,q',h=>fun i=>by
  cases i with
  |zero=>rw [qEq,qEq,h]
  |succ i=>rw [qC7,qC7,h,qI3 p h i]
theorem qUb:∀(p:List Rat) (b:Rat) (q:List Rat),Eqv (mulC p (b::q)) (addC (smul b p) (0::mulC p q))
 |[],b,q,i=>by
  rw [qBg]
  cases i<;>simp [mulC,smul]<;>grind
 |a::p,b,q,0=>by simp only [qEq,qBg,qA6,cf_zero];grind
 |a::p,b,q,i+1=>by
  have ih:=qUb p b q i
  rw [qBg,qA6] at ih
  rw [qC7,qBg,qA6,cf_succ,cf_succ,cf_succ,ih]
  cases i with
  |zero=>rw [qEq,cf_zero];grind
  |succ i=>rw [qC7,cf_succ];grind
theorem qCm:∀(p q:List Rat),Eqv (mulC p q) (mulC q p)
 |[],q,i=>by rw [qI2 q [] (fun _=>rfl)];rfl
 |a::p,q,i=>by
  have h:=qUb q a p i
  have ih:=qCm p q
  rw [h]
  cases i with
  |zero=>simp only [qEq,qBg,qA6,cf_zero];grind
  |succ i=>rw [qC7,qBg,qA6,cf_succ,ih i]
theorem qFj{p p':List Rat}(q:List Rat)(h:Eqv p p'):Eqv (mulC p q) (mulC p' q):=((qCm p q).trans (qI3 q h)).trans (qCm q p')
theorem mul_add_r:∀(p q r:List Rat),Eqv (mulC p (addC q r)) (addC (mulC p q) (mulC p r))
 |[],q,r,i=>by simp only [mulC,cf_nil,qBg];grind
 |a::p,q,r,0=>by simp only [qEq,qBg];grind
 |a::p,q,r,i+1=>by rw [qBg,qC7,qC7,qC7,mul_add_r p q r i,qBg,qBg];grind
theorem qKv(p q r:List Rat):Eqv (mulC (addC p q) r) (addC (mulC p r) (mulC q r)):=fun i=>by
 rw [qCm,mul_add_r,qBg,qBg,qCm r p,qCm r q]
theorem qHb(c:Rat):∀(p q:List Rat),Eqv (mulC (smul c p) q) (smul c (mulC p q))
 |[],q,i=>by simp [smul,mulC]
 |a::p,q,0=>by simp only [smul,List.map_cons,qEq];rw [←smul,qA6,qEq];grind
 |a::p,q,i+1=>by
  have ih:=qHb c p q i
  rw [qA6] at ih
  simp only [smul,List.map_cons] at ih ⊢
  rw [qC7,ih,←smul,qA6,qC7];grind
theorem mul_smul_r(c:Rat)(p q:List Rat):Eqv (mulC p (smul c q)) (smul c (mulC p q)):=fun i=>by
 rw [qCm,qHb,qA6,qA6,qCm]
theorem qRp:∀(k:Nat) (p q:List Rat),Eqv (mulC (qBn k p) q) (qBn k (mulC p q))
 |0,p,q=>fun i=>by simp [qBn]
 |k+1,p,q=>fun i=>by
  have e:∀(p:List Rat),qBn (k+1) p=0::qBn k p:=fun p=>by simp [qBn,List.replicate_succ]
  rw [e,e]
  cases i with
  |zero=>rw [qEq,cf_zero];grind
  |succ i=>rw [qC7,cf_succ,qRp k p q i];grind
theorem qJj:∀(p q r:List Rat),Eqv (mulC (mulC p q) r) (mulC p (mulC q r))
 |[],q,r,i=>rfl
 |a::p,q,r,i=>by
  have h1:Eqv (mulC (mulC (a::p) q) r) (addC (mulC (smul a q) r) (mulC (0::mulC p q) r)):=qKv _ _ _
  rw [h1,qBg,qHb,qA6]
  cases i with
  |zero=>rw [qEq,qEq];grind
  |succ i=>rw [qC7,qC7,qJj p q r i];grind
theorem qRq(c:Rat)(q:List Rat):Eqv (mulC [c] q) (smul c q):=fun i=>by
 simp only [mulC,qBg,qA6]
 cases i<;>simp<;>grind
theorem qMu{p p' q q':List Rat}(h:Eqv p p')(k:Eqv q q'):Eqv (addC p q) (addC p' q'):=fun i=>by rw [qBg,qBg,h i,k i]
theorem smul_eqv{c:Rat}{p p':List Rat}(h:Eqv p p'):Eqv (smul c p) (smul c p'):=fun i=>by rw [qA6,qA6,h i]
theorem shift_eqv{k:Nat}{p p':List Rat}(h:Eqv p p'):Eqv (qBn k p) (qBn k p'):=fun i=>by rw [qBu,qBu,h (i-k)]
theorem qEz:∀(p q:List Rat) (m n:Nat),(∀i,m<i->cf p i=0)->(∀i,n<i->cf q i=0)->cf (mulC p q) (m+n)=cf p m*cf q n∧∀i,m+n<i->cf (mulC p q) i=0
 |[],q,m,n,h1,h2=>by simp [mulC,Rat.zero_mul]
 |a::p,q,0,n,h1,h2=>by
  have hp:∀i,cf p i=0:=fun i=>by have:=h1 (i+1) (by omega);rwa [cf_succ] at this
  have hz:∀i,cf (mulC p q) i=0:=fun i=>by rw [qCm];exact qI2 q p hp i
  refine ⟨?_,fun i hi=>?_⟩
  ·rw [Nat.zero_add]
   cases n with
   |zero=>rw [qEq];rfl
   |succ n=>rw [qC7,hz,cf_zero];grind
  ·cases i with
   |zero=>omega
   |succ i=>rw [qC7,hz,h2 _ (by omega)];grind
 |a::p,q,m+1,n,h1,h2=>by
  obtain ⟨e1,e2⟩:=qEz p q m n (fun i hi=>by have:=h1 (i+1) (by omega);rwa [cf_succ] at this) h2
  refine ⟨?_,fun i hi=>?_⟩
  ·rw [show m+1+n=(m+n)+1 by omega,qC7,e1,h2 _ (by omega),cf_succ];grind
  ·cases i with
   |zero=>omega
   |succ i=>rw [qC7,e2 _ (by omega),h2 _ (by omega)];grind
theorem qOs{p q:List Rat}(hp:Tr p)(hq:Tr q)(p0:0<p.length)(q0:0<q.length):(qAd (mulC p q)).length=p.length+q.length-1∧cf (mulC p q) (p.length+q.length-2)=cf p (p.length-1)*cf q (q.length-1):=by
 obtain ⟨e1,e2⟩:=qEz p q (p.length-1) (q.length-1) (fun i hi=>qCr (by omega)) (fun i hi=>qCr (by omega))
 have h1:=hp.cf p0
 have h2:=hq.cf q0
 rw [show p.length-1+(q.length-1)=p.length+q.length-2 by omega] at e1 e2
 have hne:cf (mulC p q) (p.length+q.length-2)≠0:=by
  rw [e1];intro h
  rcases Rat.mul_eq_zero.1 h with h|h
  ·exact h1 h
  ·exact h2 h
 refine ⟨Nat.le_antisymm ((qAl _).len_lt fun i hi=>by rw [qBi];exact e2 i (by omega)) (Nat.le_of_not_lt fun hl=>hne ?_),e1⟩
 rw [←qBi];exact qCr (by omega)
def lead(p:List Rat):Rat:=cf p (p.length-1)
theorem qCo{p:List Rat}(h:Tr p)(h0:p≠[]):lead p≠0:=h h0
theorem qBd(c:Rat)(p:List Rat):(smul c p).length=p.length:=by simp [smul]
theorem qKf{c:Rat}{p:List Rat}(hc:c≠0)(h:Tr p):Tr (smul c p):=fun h0=>by
 rw [qBd,qA6]
 intro e
 rcases Rat.mul_eq_zero.1 e with e|e
 ·exact hc e
 ·exact h (fun e=>h0 (by rw [e];rfl)) e
theorem qNq(c:Rat)(p:List Rat):lead (smul c p)=c*lead p:=by unfold lead;rw [qBd,qA6]
theorem qIr(a b:Rat)(p:List Rat):smul a (smul b p)=smul (a*b) p:=by
 unfold smul;rw [List.map_map];refine List.map_congr_left fun x _=>?_
 simp only [Function.comp];grind
theorem qDk(p:List Rat):smul 1 p=p:=by
 unfold smul
 have:(fun x:Rat=>1*x)=id:=by funext x;simp [Rat.one_mul]
 rw [this,List.map_id]
theorem smul_eq_nil{c:Rat}{p:List Rat}:smul c p=[]↔p=[]:=by unfold smul;exact List.map_eq_nil_iff
theorem qA2{p:List Rat}(h:p≠[]):0<p.length:=List.length_pos_iff.2 h
def remK(r d:List Rat):Nat:=r.length-d.length
def remC(r d:List Rat):Rat:=lead r/lead d
def stepRP(r d:List Rat):List Rat:=qAd (subC r (qBn (remK r d) (smul (remC r d) d)))
def qD2(q r d:List Rat):List Rat:=qAd (addC q (qBn (remK r d) [remC r d]))
theorem qK7(r d:List Rat)(i:Nat):cf (stepRP r d) i=cf r i-(if i<remK r d then 0 else remC r d*cf d (i-remK r d)):=by
 unfold stepRP;rw [qBi,qJ9,qBu];split
 ·rfl
 ·rw [qA6]
theorem qE6{r d:List Rat}(hr:Tr r)(hd:Tr d)(d0:d≠[])(h:d.length≤r.length):(stepRP r d).length<r.length:=by
 have h0:=qA2 d0
 have:=(show Tr (stepRP r d) from qAl _).len_lt (n:=r.length-1) fun i hi=>by
  rw [qK7]
  by_cases e:i=r.length-1
  ·subst e
   rw [if_neg (by unfold remK;omega)]
   have e2:r.length-1-remK r d=d.length-1:=by unfold remK;omega
   rw [e2]
   have hl:=qCo hd d0
   unfold remC
   unfold lead at *
   grind
  ·rw [qCr (by omega)]
   split
   ·grind
   ·rw [qCr (p:=d) (by unfold remK;omega)];grind
 omega
theorem qTp(q r d:List Rat):Eqv (addC (mulC (qD2 q r d) d) (stepRP r d)) (addC (mulC q d) r):=fun i=>by
 have h1:=qFj d (qCf (addC q (qBn (remK r d) [remC r d]))) i
 have h2:=qKv q (qBn (remK r d) [remC r d]) d i
 have h3:=qRp (remK r d) [remC r d] d i
 have h4:=shift_eqv (k:=remK r d) (qRq (remC r d) d) i
 rw [qBg,qBg,qK7]
 unfold qD2
 rw [h1,h2,qBg,h3,h4,qBu]
 split
 ·grind
 ·rw [qA6];grind
def divL:Nat->List Rat->List Rat->List Rat->List Rat×List Rat
 |0,q,r,d=>(q,r)
 |n+1,q,r,d=>if r.length<d.length then (q,r) else divL n (qD2 q r d) (stepRP r d) d
theorem divL_spec{d:List Rat}(hd:Tr d)(d0:d≠[]):∀(n:Nat) (q r:List Rat),Tr r->r.length<n->Tr (divL n q r d).2∧(divL n q r d).2.length<d.length∧Eqv (addC (mulC (divL n q r d).1 d) (divL n q r d).2) (addC (mulC q d) r)
 |0,q,r,hr,h=>by omega
 |n+1,q,r,hr,h=>by
  unfold divL
  split
  ·rename_i h1;exact ⟨hr,h1,Eqv.refl _⟩
  ·rename_i h1
   have hl:=qE6 hr hd d0 (by omega)
   obtain ⟨a,b,c⟩:=divL_spec hd d0 n (qD2 q r d) (stepRP r d) (qAl _) (by omega)
   exact ⟨a,b,c.trans (qTp q r d)⟩
theorem divL_tr{d:List Rat}:∀(n:Nat) (q r:List Rat),Tr q->Tr (divL n q r d).1
 |0,q,r,h=>h
 |n+1,q,r,h=>by
  unfold divL;split
  ·exact h
  ·exact divL_tr n _ _ (qAl _)
def divP(p d:List Rat):List Rat×List Rat:=divL (p.length+1) [] p d
def remP(p d:List Rat):List Rat:=(divP p d).2
theorem qBy{p d:List Rat}(hp:Tr p)(hd:Tr d)(d0:d≠[]):Tr (divP p d).1∧Tr (divP p d).2∧(divP p d).2.length<d.length∧Eqv (addC (mulC (divP p d).1 d) (divP p d).2) p:=by
 obtain ⟨a,b,c⟩:=divL_spec hd d0 (p.length+1) [] p hp (by omega)
 refine ⟨divL_tr _ _ _ Tr.nil,a,b,c.trans fun i=>?_⟩
 rw [qBg];simp only [mulC,cf_nil];grind
theorem div_unique{q r q' r' d:List Rat}(hd:Tr d)(d0:d≠[])(h1:r.length<d.length)(h2:r'.length<d.length)(h:Eqv (addC (mulC q d) r) (addC (mulC q' d) r')):Eqv q q'∧Eqv r r':=by
 have hz:qAd (subC q q')=[]:=by
  refine Classical.byContradiction fun hne=>?_
  have hl:=qOs (qAl (subC q q')) hd (qA2 hne) (qA2 d0)
  have l1:=qA2 hne
  have l2:=qA2 d0
  have a1:=(qAl (subC q q')).cf l1
  have a2:=hd.cf l2
  generalize hN:(qAd (subC q q')).length+d.length-2=N at hl
  have e:cf (mulC (qAd (subC q q')) d) N=0:=by
   rw [qFj d (qCf (subC q q')) N]
   have e1:Eqv (mulC (subC q q') d) (subC (mulC q d) (mulC q' d)):=fun i=>by
    have h3:Eqv (mulC (negC q') d) (negC (mulC q' d)):=qHb (-1) q' d
    unfold subC
    rw [qKv,qBg,qBg,h3 i]
   rw [e1 N,qJ9]
   have:=h N
   rw [qBg,qBg,qCr (p:=r) (by omega),qCr (p:=r') (by omega)] at this
   grind
  rw [hl.2] at e
  rcases Rat.mul_eq_zero.1 e with e|e
  ·exact a1 e
  ·exact a2 e
 have hq:Eqv q q':=fun i=>by
  have:=(qKe _).1 hz i
  rw [qJ9] at this;grind
 refine ⟨hq,fun i=>?_⟩
 have:=h i
 rw [qBg,qBg,qFj d hq i] at this
 grind
theorem qHo{p d q r:List Rat}(hp:Tr p)(hd:Tr d)(d0:d≠[])(hq:Tr q)(hr:Tr r)(hl:r.length<d.length)(h:Eqv (addC (mulC q d) r) p):divP p d=(q,r):=by
 obtain ⟨a,b,c,e⟩:=qBy hp hd d0
 obtain ⟨h1,h2⟩:=div_unique hd d0 c hl (e.trans h.symm)
 exact Prod.ext (a.ext hq h1) (b.ext hr h2)
theorem remP_smul{p d:List Rat}(hp:Tr p)(hd:Tr d)(d0:d≠[]){a b:Rat}(ha:a≠0)(hb:b≠0):remP (smul a p) (smul b d)=smul a (remP p d):=by
 obtain ⟨h1,h2,h3,h4⟩:=qBy hp hd d0
 have hab:a/b≠0:=by
  intro h
  have:a=a/b*b:=by grind
  rw [h] at this;grind
 have:=qHo (p:=smul a p) (d:=smul b d) (q:=smul (a/b) (divP p d).1) (r:=smul a (divP p d).2) (qKf ha hp) (qKf hb hd) (by rw [ne_eq,smul_eq_nil];exact d0) (qKf hab h1) (qKf ha h2) (by rw [qBd,qBd];exact h3) (fun i=>by
  rw [qBg,qHb,qA6,mul_smul_r,qA6,qA6,qA6,←h4 i,qBg]
  grind)
 unfold remP
 rw [this]
def qA7(p:List Rat):List Rat:=smul (1/lead p) p
theorem qUd{c:Rat}{p:List Rat}(hc:c≠0):qA7 (smul c p)=qA7 p:=by
 unfold qA7
 rw [qNq,qIr]
 congr 1
 grind
theorem monic_nil:qA7 []=[]:=rfl
theorem qEv{p:List Rat}(h:Tr p):Tr (qA7 p):=by
 by_cases h0:p=[]
 ·subst h0;exact Tr.nil
 ·have:=qCo h h0
  exact qKf (by grind) h
theorem qUj{p:List Rat}(h:Tr p)(h0:p≠[]):lead (qA7 p)=1:=by
 have:=qCo h h0
 unfold qA7;rw [qNq];grind
def gcdL:Nat->List Rat->List Rat->List Rat
 |0,p,_=>qA7 p
 |n+1,p,q=>if q=[] then qA7 p else gcdL n q (remP p q)
theorem qEl{p d:List Rat}(hp:Tr p)(hd:Tr d)(d0:d≠[]):Tr (remP p d):=(qBy hp hd d0).2.1
theorem qC4{p d:List Rat}(hp:Tr p)(hd:Tr d)(d0:d≠[]):(remP p d).length<d.length:=(qBy hp hd d0).2.2.1
theorem gcdL_smul:∀(n:Nat) {p q:List Rat} {a b:Rat},Tr p->Tr q->a≠0->b≠0->gcdL n (smul a p) (smul b q)=gcdL n p q
 |0,p,q,a,b,hp,hq,ha,hb=>qUd ha
 |n+1,p,q,a,b,hp,hq,ha,hb=>by
  unfold gcdL
  by_cases h:q=[]
  ·rw [if_pos h,if_pos (smul_eq_nil.2 h),qUd ha]
  ·rw [if_neg h,if_neg (mt smul_eq_nil.1 h),remP_smul hp hq h ha hb]
   exact gcdL_smul n hq (qEl hp hq h) hb ha
theorem qR6:∀(n m:Nat) {p q:List Rat},Tr p->Tr q->q.length≤n->q.length≤m->gcdL n p q=gcdL m p q
 |0,0,p,q,_,_,_,_=>rfl
 |0,m+1,p,q,_,_,h,_=>by
  have:q=[]:=List.eq_nil_of_length_eq_zero (by omega)
  unfold gcdL;rw [if_pos this]
 |n+1,0,p,q,_,_,_,h=>by
  have:q=[]:=List.eq_nil_of_length_eq_zero (by omega)
  unfold gcdL;rw [if_pos this]
 |n+1,m+1,p,q,hp,hq,h1,h2=>by
  unfold gcdL
  by_cases h:q=[]
  ·rw [if_pos h,if_pos h]
  ·rw [if_neg h,if_neg h]
   have:=qC4 hp hq h
   exact qR6 n m hq (qEl hp hq h) (by omega) (by omega)
def gcdP(p q:List Rat):List Rat:=gcdL q.length p q
theorem qG3(p:List Rat):gcdP p []=qA7 p:=rfl
theorem qGn{p q:List Rat}(hp:Tr p)(hq:Tr q)(h:q≠[]){a b:Rat}(ha:a≠0)(hb:b≠0):gcdP p q=gcdP (smul a q) (smul b (remP p q)):=by
 unfold gcdP
 rw [qBd,gcdL_smul _ hq (qEl hp hq h) ha hb]
 obtain ⟨n,hn⟩:∃n,q.length=n+1:=⟨q.length-1,by have:=qA2 h;omega⟩
 rw [hn]
 conv=>lhs;unfold gcdL
 rw [if_neg h]
 have:=qC4 hp hq h
 exact qR6 _ _ hq (qEl hp hq h) (by omega) (by omega)
def derC(p:List Rat):List Rat:=(p.mapIdx fun i x=>(i:Rat)*x).drop 1
theorem qGo(p:List Rat)(i:Nat):cf (derC p) i=((i+1:Nat):Rat)*cf p (i+1):=by
 unfold derC cf
 rw [List.getD_eq_getElem?_getD,List.getD_eq_getElem?_getD,List.getElem?_drop,List.getElem?_mapIdx,Nat.add_comm 1 i]
 cases p[i+1]? with
 |none=>simp [Rat.mul_zero]
 |some x=>rfl
def derP(p:List Rat):List Rat:=qAd (derC p)
theorem qH8(p:List Rat):(derC p).length=p.length-1:=by simp [derC]
def qBf(ch:List Rat->List Rat):Nat->List Rat->List Rat->List (List Rat)
 |0,_,_=>[]
 |n+1,a,b=>if a=[] then [] else if b=[] then [a] else a::qBf ch n b (ch (negC (remP a b)))
theorem qJ2{p:List Rat}(h:Tr p):Tr (negC p):=qKf (by decide) h
def HtP(h:Nat)(p:List Rat):Prop:=∃(c:Int) (P:Nat->Int),c≠0∧ln c.natAbs<h∧∀i,ln (P i).natAbs<h∧cf p i=Rat.divInt (P i) c
theorem HtP.ok{h:Nat}{p:List Rat}(H:HtP h p)(i:Nat):okQ h (cf p i):=by
 obtain ⟨c,P,c0,hc,hp⟩:=H
 rw [(hp i).2]
 exact qHa c0 (hp i).1 hc
theorem HtP.okL{h:Nat}{p:List Rat}(H:HtP h p):∀x∈p,okQ h x:=fun x hx=>by
 obtain ⟨i,hi,rfl⟩:=List.mem_iff_getElem.1 hx
 rw [←qN4 hi];exact H.ok i
theorem HtP.mono{h k:Nat}{p:List Rat}(H:HtP h p)(hk:h≤k):HtP k p:=by
 obtain ⟨c,P,c0,hc,hp⟩:=H
 exact ⟨c,P,c0,by omega,fun i=>⟨by have:=(hp i).1;omega,(hp i).2⟩⟩
theorem HtP.eqv{h:Nat}{p q:List Rat}(H:HtP h p)(e:Eqv q p):HtP h q:=by
 obtain ⟨c,P,c0,hc,hp⟩:=H
 exact ⟨c,P,c0,hc,fun i=>⟨(hp i).1,(e i).trans (hp i).2⟩⟩
theorem HtP.trim{h:Nat}{p:List Rat}(H:HtP h p):HtP h (qAd p):=H.eqv (qCf p)
theorem HtP.zero{p:List Rat}(h:∀i,cf p i=0):HtP 2 p:=⟨1,fun _=>0,by decide,by show ln 1<2;rw [qKw];decide,fun i=>⟨by show ln 0<2;rw [qF7];decide,by rw [h i];exact (Rat.zero_divInt 1).symm⟩⟩
theorem HtP.nil:HtP 2 []:=HtP.zero fun _=>rfl
theorem qDo{a b:Int}{h k:Nat}(ha:ln a.natAbs<h)(hb:ln b.natAbs<k):ln (a*b).natAbs<h+k-1:=by
 rw [Int.natAbs_mul]
 have:=qC8 a.natAbs b.natAbs
 omega
theorem ln_addZ{a b:Int}{h:Nat}(ha:ln a.natAbs<h)(hb:ln b.natAbs<h):ln (a+b).natAbs<h+1:=by
 have h1:=ln_mono (Int.natAbs_add_le a b)
 have h2:=ln_add1 (m:=a.natAbs) (n:=b.natAbs) (k:=h-1) (by omega) (by omega)
 omega
theorem ln_negZ{a:Int}{h:Nat}(ha:ln a.natAbs<h):ln (-a).natAbs<h:=by rw [Int.natAbs_neg];exact ha
theorem ln_subZ{a b:Int}{h:Nat}(ha:ln a.natAbs<h)(hb:ln b.natAbs<h):ln (a-b).natAbs<h+1:=by
 rw [Int.sub_eq_add_neg];exact ln_addZ ha (ln_negZ hb)
theorem qCq{a c k:Int}(hk:k≠0):Rat.divInt (a*k) (c*k)=Rat.divInt a c:=Rat.divInt_mul_right hk
theorem HtP.of_ok{k:Nat}(hk:1<k):∀(p:List Rat),(∀x∈p,okQ k x)->HtP (p.length*k+2) p
 |[],_=>HtP.nil.mono (by simp)
 |a::p,h=>by
  obtain ⟨c,P,c0,hc,hp⟩:=HtP.of_ok hk p fun x hx=>h x (by simp [hx])
  obtain ⟨a1,a2⟩:=h a (by simp)
  have l1:ln (a.den:Int).natAbs<k:=by rw [Int.natAbs_natCast];exact a2
  have e:(a::p).length*k+2=p.length*k+k+2:=by rw [List.length_cons,Nat.add_mul];omega
  rw [e]
  refine ⟨c*a.den,fun i=>match i with|0=>c*a.num|i+1=>P i*a.den,?_,?_,fun i=>?_⟩
  ·exact Int.mul_ne_zero c0 (den_ne a)
  ·have:=qDo hc l1;omega
  ·cases i with
   |zero=>
    refine ⟨by have:=qDo hc (k:=k) a1;simp only;omega,?_⟩
    simp only [cf_zero]
    rw [Int.mul_comm c,Int.mul_comm c,qCq c0,Rat.num_divInt_den]
   |succ i=>
    refine ⟨by have:=qDo (hp i).1 l1;simp only;omega,?_⟩
    simp only [cf_succ]
    rw [qCq (den_ne a)];exact (hp i).2
theorem HtP.neg{h:Nat}{p:List Rat}(H:HtP h p):HtP h (negC p):=by
 obtain ⟨c,P,c0,hc,hp⟩:=H
 refine ⟨c,fun i=> -P i,c0,hc,fun i=>⟨ln_negZ (hp i).1,?_⟩⟩
 rw [cf_neg,(hp i).2,Rat.neg_divInt]
theorem HtP.smul{h k:Nat}{p:List Rat}{x:Rat}(H:HtP h p)(hx:okQ k x):HtP (h+k) (smul x p):=by
 obtain ⟨c,P,c0,hc,hp⟩:=H
 obtain ⟨x1,x2⟩:=hx
 refine ⟨x.den*c,fun i=>x.num*P i,Int.mul_ne_zero (den_ne x) c0,?_,fun i=>⟨?_,?_⟩⟩
 ·have:=qDo (a:=(x.den:Int)) (h:=k) (by rw [Int.natAbs_natCast];exact x2) hc;omega
 ·have:=qDo (a:=x.num) (h:=k) x1 (hp i).1;dsimp only;omega
 ·rw [qA6,(hp i).2]
  conv=>lhs;rw [←Rat.num_divInt_den x]
  rw [Rat.divInt_mul_divInt]
theorem HtP.add{h k:Nat}{p q:List Rat}(H:HtP h p)(K:HtP k q):HtP (h+k) (addC p q):=by
 obtain ⟨c,P,c0,hc,hp⟩:=H
 obtain ⟨d,Q,d0,hd,hq⟩:=K
 refine ⟨c*d,fun i=>P i*d+Q i*c,Int.mul_ne_zero c0 d0,?_,fun i=>⟨?_,?_⟩⟩
 ·have:=qDo hc hd;omega
 ·have h1:=qDo (hp i).1 hd
  have h2:=qDo (hq i).1 hc
  have:=ln_addZ (a:=P i*d) (b:=Q i*c) (h:=h+k-1) h1 (by omega)
  dsimp only
  omega
 ·rw [qBg,(hp i).2,(hq i).2,Rat.divInt_add_divInt _ _ c0 d0]
theorem HtP.sub{h k:Nat}{p q:List Rat}(H:HtP h p)(K:HtP k q):HtP (h+k) (subC p q):=H.add K.neg
theorem HtP.shift{h k:Nat}{p:List Rat}(H:HtP h p):HtP h (qBn k p):=by
 obtain ⟨c,P,c0,hc,hp⟩:=H
 refine ⟨c,fun i=>if i<k then 0 else P (i-k),c0,hc,fun i=>?_⟩
 rw [qBu]
 dsimp only
 split
 ·exact ⟨by show ln 0<h;rw [qF7];omega,(Rat.zero_divInt c).symm⟩
 ·exact hp (i-k)
theorem qSf{a c:Int}(h:Rat.divInt a c≠0):a≠0:=fun e=>h (by rw [e,Rat.zero_divInt])
theorem qHp{a b c d:Int}(hc:c≠0)(hb:b≠0)(hd:d≠0):Rat.divInt a c/Rat.divInt b d=Rat.divInt (a*d) (c*b):=by
 rw [Rat.div_def,Rat.inv_divInt,Rat.divInt_mul_divInt]
theorem HtP.monic{h:Nat}{p:List Rat}(H:HtP h p):HtP (h+1) (qA7 p):=by
 obtain ⟨c,P,c0,hc,hp⟩:=H
 by_cases h0:lead p=0
 ·refine (HtP.zero (p:=qA7 p) fun i=>?_).mono (by omega)
  unfold qA7
  rw [qA6,h0]
  have:(1:Rat)/0=0:=by rw [Rat.div_def,Rat.inv_zero,Rat.mul_zero]
  rw [this,Rat.zero_mul]
 ·have e:=(hp (p.length-1)).2
  have hne:=qSf (a:=P (p.length-1)) (c:=c) (by rw [←e];exact h0)
  refine ⟨P (p.length-1),P,hne,by have:=(hp (p.length-1)).1;omega,fun i=>⟨by have:=(hp i).1;omega,?_⟩⟩
  unfold qA7
  rw [qA6,(hp i).2]
  show 1/cf p (p.length-1)*_=_
  rw [e]
  have:1/Rat.divInt (P (p.length-1)) c*Rat.divInt (P i) c=Rat.divInt (P i) c/Rat.divInt (P (p.length-1)) c:=by grind
  rw [this,qHp c0 hne c0,Int.mul_comm c,qCq c0]
theorem remC_ok{h l:Nat}{r d:List Rat}(H:HtP h r)(L:HtP l d)(hd:lead d≠0):okQ (h+l) (remC r d):=by
 unfold remC
 have h1:okQ h (lead r):=H.ok _
 have h2:okQ l (lead d):=L.ok _
 exact h1.div h2 hd
theorem HtP.stepRP{h l:Nat}{r d:List Rat}(H:HtP h r)(L:HtP l d)(hd:lead d≠0):HtP (h+l) (stepRP r d):=by
 obtain ⟨c,R,c0,hc,hr⟩:=H
 obtain ⟨e,E,e0,he,hE⟩:=L
 have e1:=(hE (d.length-1)).2
 have e2:=(hr (r.length-1)).2
 have hne:=qSf (a:=E (d.length-1)) (c:=e) (by rw [←e1];exact hd)
 have l0:=(hE (d.length-1)).1
 have r0':=(hr (r.length-1)).1
 refine ⟨c*E (d.length-1),fun i=>R i*E (d.length-1)-(if i<remK r d then 0 else R (r.length-1)*E (i-remK r d)),Int.mul_ne_zero c0 hne,?_,fun i=>⟨?_,?_⟩⟩
 ·have:=qDo hc l0;omega
 ·have h1:=qDo (hr i).1 l0
  have h2:ln (if i<remK r d then 0 else R (r.length-1)*E (i-remK r d)).natAbs<h+l-1:=by
   split
   ·show ln 0<_;rw [qF7];omega
   ·exact qDo r0' (hE (i-remK r d)).1
  have:=ln_subZ h1 h2
  dsimp only
  omega
 ·rw [qK7,(hr i).2]
  dsimp only
  split
  ·rw [Int.sub_zero,qCq hne];grind
  ·have hq:remC r d*cf d (i-remK r d)=Rat.divInt (R (r.length-1)*E (i-remK r d)) (c*E (d.length-1)):=by
    unfold remC lead
    rw [e1,e2,(hE (i-remK r d)).2,qHp c0 hne e0,Rat.divInt_mul_divInt]
    rw [show R (r.length-1)*e*E (i-remK r d)=R (r.length-1)*E (i-remK r d)*e by rw [Int.mul_assoc,Int.mul_assoc,Int.mul_comm e],qCq e0]
   rw [hq,←qCq (a:=R i) (c:=c) hne,Rat.sub_eq_add_neg,Rat.neg_divInt,Rat.divInt_add_divInt _ _ (Int.mul_ne_zero c0 hne) (Int.mul_ne_zero c0 hne),←Int.add_mul,qCq (Int.mul_ne_zero c0 hne),←Int.sub_eq_add_neg]
theorem divL_ht{d:List Rat}{l:Nat}(hd:Tr d)(d0:d≠[])(L:HtP l d):∀(n h:Nat) (q r:List Rat),Tr r->HtP h r->HtP (h+(r.length+1-d.length)*l) (divL n q r d).2
 |0,h,q,r,hr,H=>H.mono (by omega)
 |n+1,h,q,r,hr,H=>by
  unfold divL
  split
  ·exact H.mono (by omega)
  ·rename_i hl
   have h1:=qE6 hr hd d0 (by omega)
   have h2:=divL_ht hd d0 L n (h+l) (qD2 q r d) (stepRP r d) (qAl _) (H.stepRP L (qCo hd d0))
   refine h2.mono ?_
   obtain ⟨m,hm⟩:∃m,r.length+1-d.length=m+1:=⟨r.length-d.length,by omega⟩
   have h3:((stepRP r d).length+1-d.length)*l≤m*l:=Nat.mul_le_mul_right _ (by omega)
   rw [hm,Nat.add_mul]
   omega
theorem qOf{p d:List Rat}{h l:Nat}(hp:Tr p)(hd:Tr d)(d0:d≠[])(H:HtP h p)(L:HtP l d):HtP (h+(p.length+1-d.length)*l) (remP p d):=divL_ht hd d0 L _ _ _ _ hp H
theorem qMi:∀e:Nat,1≤e->e+2≤3^e
 |1,_=>by decide
 |e+2,_=>by have:=qMi (e+1) (by omega);rw [Nat.pow_succ];omega
theorem qJl(n:Nat):n+1≤3^n:=by
 rcases Nat.eq_zero_or_pos n with h|h
 ·subst h;decide
 ·have:=qMi n h;omega
def Bud:Nat:=2000000
def Fit(n:Nat)(f:List Rat)(M:Nat):Prop:=HtP M f∧(M+1)*3^n≤Bud
structure JS (a b:List Rat) (M:Nat):Prop where
 ta:Tr a
 tb:Tr b
 lt:a≠[]->b.length<a.length
 ha:HtP M a
 hb:HtP M b
 bud:(M+1)*3^a.length≤Bud
theorem JS.rem{a b:List Rat}{M:Nat}(h:JS a b M)(a0:a≠[])(b0:b≠[]):HtP ((a.length-b.length+2)*M) (remP a b)∧((a.length-b.length+2)*M+1+1)*3^b.length≤Bud∧M+(a.length+1-b.length)*M+M≤2000000∧(a.length-b.length+2)*M≤2000000∧M≤(a.length-b.length+2)*M:=by
 have hl:=h.lt a0
 have hb:=qA2 b0
 obtain ⟨e,he⟩:∃e,a.length-b.length=e:=⟨_,rfl⟩
 have e1:1≤e:=by omega
 have p:=qMi e e1
 have hr:=qOf h.ta h.tb b0 h.ha h.hb
 rw [he]
 have e2:a.length+1-b.length=e+1:=by omega
 rw [e2] at hr ⊢
 have e3:M+(e+1)*M=(e+2)*M:=by rw [Nat.add_mul,Nat.add_mul];omega
 rw [e3] at hr ⊢
 have e4:3^a.length=3^e*3^b.length:=by rw [←Nat.pow_add];congr 1;omega
 have bud:=h.bud
 rw [e4] at bud
 have k1:(e+2)*M+1+1≤(M+1)*3^e:=by
  have:=Nat.mul_le_mul_left (M+1) p
  have e5:(M+1)*(e+2)=(e+2)*M+(e+2):=by rw [Nat.add_mul,Nat.mul_comm M];omega
  omega
 have k2:((e+2)*M+1+1)*3^b.length≤Bud:=by
  refine Nat.le_trans (Nat.mul_le_mul_right _ k1) ?_
  rw [Nat.mul_assoc];exact bud
 have k3:3≤3^b.length:=by
  have:=Nat.pow_le_pow_right (show 0<3 by decide) hb
  simpa using this
 have k4:((e+2)*M+1+1)*3≤Bud:=Nat.le_trans (Nat.mul_le_mul_left _ k3) k2
 have k5:M≤(e+2)*M:=Nat.le_mul_of_pos_left M (by omega)
 unfold Bud at k4
 exact ⟨hr,k2,by omega,by omega,k5⟩
structure ChOk (ch:List Rat->List Rat):Prop where
 tr:∀p,Tr p->Tr (ch p)
 len:∀p,(ch p).length=p.length
 ht:∀p h,Tr p->HtP h p->HtP (h+1) (ch p)
theorem ChOk.id:ChOk id:=⟨fun _ h=>h,fun _=>rfl,fun _ _ _ h=>h.mono (by omega)⟩
theorem JS.next{ch:List Rat->List Rat}(hc:ChOk ch){a b:List Rat}{M:Nat}(h:JS a b M)(a0:a≠[])(b0:b≠[]):∃M',JS b (ch (negC (remP a b))) M':=by
 obtain ⟨h1,h2,_,_,h5⟩:=h.rem a0 b0
 have ht:=qEl h.ta h.tb b0
 have hl:=qC4 h.ta h.tb b0
 refine ⟨(a.length-b.length+2)*M+1,h.tb,hc.tr _ (qJ2 ht),fun _=>?_,h.hb.mono (by omega),hc.ht _ _ (qJ2 ht) h1.neg,h2⟩
 rw [hc.len]
 show (smul (-1) _).length<_
 rw [qBd];exact hl
theorem JS.chain{ch:List Rat->List Rat}(hc:ChOk ch):∀(n:Nat) {a b:List Rat} {M:Nat},JS a b M->∀f∈qBf ch n a b,Tr f∧∃M',Fit f.length f M'
 |0,_,_,_,_,f,hf=>by simp [qBf] at hf
 |n+1,a,b,M,h,f,hf=>by
  rw [qBf] at hf
  split at hf
  ·simp at hf
  ·rename_i a0
   split at hf
   ·simp only [List.mem_singleton] at hf
    subst hf
    exact ⟨h.ta,M,h.ha,h.bud⟩
   ·rename_i b0
    rcases List.mem_cons.1 hf with rfl|hf
    ·exact ⟨h.ta,M,h.ha,h.bud⟩
    ·obtain ⟨M',h'⟩:=h.next hc a0 b0
     exact JS.chain hc n h' f hf
theorem qHr(ch:List Rat->List Rat):∀(n:Nat) (a b:List Rat),(qBf ch n a b).length≤n
 |0,_,_=>by simp [qBf]
 |n+1,a,b=>by
  rw [qBf]
  split
  ·simp
  ·split
   ·simp
   ·have:=qHr ch n b (ch (negC (remP a b)))
    simp;exact this
theorem qK2{p:List Rat}(h:qAd p≠[]):(derP p).length<(qAd p).length:=by
 have h0:=qA2 h
 have h1:(derP p).length≤(qAd p).length-1:=(qAl (derC p)).len_lt fun i hi=>by
  show cf (qAd (derC p)) i=0
  rw [qBi,qGo,←qBi p,qCr (by omega),Rat.mul_zero]
 omega
structure JG (p q:List Rat):Prop where
 tp:Tr p
 tq:Tr q
 fit:∃M,HtP M p∧HtP M q∧(M+1)*3^(if q.length<p.length then p.length else q.length+1)≤Bud
theorem JG.step{p q:List Rat}(h:JG p q)(q0:q≠[]):∃M,HtP M p∧HtP M q∧M+(p.length+1-q.length)*M+M≤2000000∧JG (qA7 q) (remP p q):=by
 obtain ⟨M,h1,h2,h3⟩:=h.fit
 have hr:=qOf h.tp h.tq q0 h1 h2
 have hl:=qC4 h.tp h.tq q0
 have hq:=qA2 q0
 have hml:(qA7 q).length=q.length:=qBd _ _
 have hm:=h2.monic
 have k3:3≤3^q.length:=by
  have:=Nat.pow_le_pow_right (show 0<3 by decide) hq
  simpa using this
 obtain ⟨B,hB⟩:∃B,(p.length+1-q.length)*M=B:=⟨_,rfl⟩
 have k1:(M+B+1+1)*3^q.length≤Bud:=by
  by_cases c:q.length<p.length
  ·rw [if_pos c] at h3
   obtain ⟨e,he⟩:∃e,p.length-q.length=e:=⟨_,rfl⟩
   have p3:=qMi e (by omega)
   have e4:3^p.length=3^e*3^q.length:=by rw [←Nat.pow_add];congr 1;omega
   rw [e4,←Nat.mul_assoc] at h3
   refine Nat.le_trans (Nat.mul_le_mul_right _ ?_) h3
   rw [show p.length+1-q.length=e+1 by omega,Nat.add_mul,Nat.one_mul] at hB
   have:=Nat.mul_le_mul_left (M+1) p3
   have e5:(M+1)*(e+2)=e*M+2*M+(e+2):=by rw [Nat.add_mul,Nat.mul_add,Nat.mul_comm M e];omega
   omega
  ·rw [if_neg c,Nat.pow_succ,Nat.mul_comm (3^q.length) 3,←Nat.mul_assoc] at h3
   refine Nat.le_trans (Nat.mul_le_mul_right _ ?_) h3
   have:B≤M:=by
    rw [←hB]
    rcases Nat.lt_or_ge (p.length+1-q.length) 1 with g|g
    ·rw [show p.length+1-q.length=0 by omega];omega
    ·rw [show p.length+1-q.length=1 by omega];omega
   omega
 have k2:=Nat.le_trans (Nat.mul_le_mul_left (M+B+1+1) k3) k1
 unfold Bud at k2
 refine ⟨M,h1,h2,by omega,qEv h.tq,qEl h.tp h.tq q0,M+B+1,hm.mono (by omega),(hB▸hr).mono (by omega),?_⟩
 rw [hml,if_pos hl]
 exact k1
theorem JG.of{a b:List Rat}{M:Nat}(ta:Tr a)(tb:Tr b)(ha:HtP M a)(hb:HtP M b)(h:(M+1)*3^(max a.length (b.length+1))≤Bud):JG a b:=⟨ta,tb,M,ha,hb,by
 refine Nat.le_trans (Nat.mul_le_mul_left _ (Nat.pow_le_pow_right (by decide) ?_)) h
 split<;>omega⟩
theorem mul_snoc:∀(p:List Rat) (a:Rat) (q:List Rat),Eqv (mulC (p++[a]) q) (addC (mulC p q) (qBn p.length (smul a q)))
 |[],a,q=>fun i=>by
  rw [List.nil_append,qRq a q i,qBg,qBu]
  simp [mulC,Rat.zero_add]
 |b::p,a,q=>fun i=>by
  cases i with
  |zero=>
   rw [List.cons_append,qEq,qBg,qEq,qBu]
   simp [Rat.add_zero]
  |succ i=>
   rw [List.cons_append,qC7,mul_snoc p a q i,qBg,qBg,qC7,qBu,qBu]
   simp only [List.length_cons,Nat.add_lt_add_iff_right,Nat.add_sub_add_right]
   grind
def rowV(p q:List Rat)(i j k:Nat):Rat:=cf (mulC (p.take i) q) k+cf (qBn i (smul (cf p i) (q.take j))) k
theorem rowV_zero(p q:List Rat)(k:Nat):rowV p q 0 0 k=0:=by
 unfold rowV
 rw [qBu,qA6,qMr]
 simp [mulC,Rat.add_zero]
theorem rowV_step(p q:List Rat)(i j k:Nat):rowV p q i (j+1) k=rowV p q i j k+if k=i+j then cf p i*cf q j else 0:=by
 unfold rowV
 rw [qBu,qBu,qA6,qA6,qMr,qMr]
 by_cases h:k<i
 ·rw [if_pos h,if_pos h,if_neg (show ¬k=i+j by omega)];grind
 ·rw [if_neg h,if_neg h]
  by_cases e:k=i+j
  ·subst e
   rw [if_pos rfl,if_pos (show i+j-i<j+1 by omega),if_neg (show ¬i+j-i<j by omega),show i+j-i=j by omega]
   grind
  ·rw [if_neg e]
   by_cases g:k-i<j
   ·rw [if_pos g,if_pos (by omega)];grind
   ·rw [if_neg g,if_neg (by omega)];grind
theorem rowV_row{p:List Rat}(q:List Rat){i:Nat}(h:i<p.length)(k:Nat):rowV p q i q.length k=rowV p q (i+1) 0 k:=by
 unfold rowV
 rw [List.take_length,List.take_zero]
 have e:p.take (i+1)=p.take i++[cf p i]:=by
  rw [List.take_add_one,List.getElem?_eq_getElem h,qN4 h];rfl
 rw [e,mul_snoc (p.take i) (cf p i) q k,qBg,List.length_take,show min i p.length=i by omega,qBu (i+1)]
 simp [smul,Rat.add_zero]
theorem rowV_all(p q:List Rat)(k:Nat):rowV p q p.length 0 k=cf (mulC p q) k:=by
 unfold rowV
 rw [List.take_length,qBu,qA6,qMr]
 simp [Rat.add_zero]
theorem qCv{p:List Rat}{K:Nat}(h:∀x∈p,okQ K x)(hK:1<K)(i:Nat):okQ K (cf p i):=by
 by_cases hi:i<p.length
 ·rw [qN4 hi];exact h _ (List.getElem_mem hi)
 ·rw [qCr (by omega)];exact qB9 hK
theorem ok_row0{p q:List Rat}{K:Nat}(hp:∀x∈p,okQ K x)(hq:∀x∈q,okQ K x)(hK:1<K):∀(i:Nat),i≤p.length->∀k,okQ (2*K*i+K) (rowV p q i 0 k)
 |0,_,k=>by rw [rowV_zero];exact qB9 (by omega)
 |i+1,h,k=>by
  rw [←rowV_row q (show i<p.length by omega) k]
  have ih:=ok_row0 hp hq hK i (by omega) k
  unfold rowV at ih ⊢
  rw [List.take_zero] at ih
  have e0:cf (qBn i (smul (cf p i) [])) k=0:=by rw [qBu];simp [smul]
  rw [e0,Rat.add_zero] at ih
  rw [List.take_length,qBu]
  have h2:okQ (2*K) (if k<i then 0 else cf (smul (cf p i) q) (k-i)):=by
   split
   ·exact qB9 (by omega)
   ·rw [qA6,Nat.two_mul];exact (qCv hp hK i).mul (qCv hq hK _)
  exact (ih.add h2).mono (by rw [Nat.mul_add,Nat.mul_one];omega)
theorem ok_row{p q:List Rat}{K:Nat}(hp:∀x∈p,okQ K x)(hq:∀x∈q,okQ K x)(hK:1<K){i:Nat}(h:i≤p.length)(j k:Nat):okQ (2*K*i+3*K) (rowV p q i j k):=by
 have ih:=ok_row0 hp hq hK i h k
 unfold rowV at ih ⊢
 rw [List.take_zero] at ih
 have e0:cf (qBn i (smul (cf p i) [])) k=0:=by rw [qBu];simp [smul]
 rw [e0,Rat.add_zero] at ih
 rw [qBu]
 have h2:okQ (2*K) (if k<i then 0 else cf (smul (cf p i) (q.take j)) (k-i)):=by
  split
  ·exact qB9 (by omega)
  ·rw [qA6,Nat.two_mul,qMr]
   refine (qCv hp hK i).mul ?_
   split
   ·exact qCv hq hK _
   ·exact qB9 hK
 exact (ih.add h2).mono (by omega)
def rowR(r d:List Rat)(k:Nat)(c:Rat)(i:Nat):List Rat:=(List.range r.length).map fun j=>cf r j-(if k≤j∧j<k+i then c*cf d (j-k) else 0)
theorem rowR_len(r d:List Rat)(k:Nat)(c:Rat)(i:Nat):(rowR r d k c i).length=r.length:=by simp [rowR]
theorem rowR_getD{r d:List Rat}{k:Nat}{c:Rat}{i j:Nat}(h:j<r.length):(rowR r d k c i).getD j 0=cf r j-(if k≤j∧j<k+i then c*cf d (j-k) else 0):=by
 simp [rowR,List.getD_eq_getElem?_getD,h]
theorem rowR_zero(r d:List Rat)(k:Nat)(c:Rat):rowR r d k c 0=r:=by
 refine List.ext_getElem (by simp [rowR]) fun j g1 g2=>?_
 simp only [rowR,List.getElem_map,List.getElem_range]
 rw [if_neg (by omega),qN4 g2,Rat.sub_eq_add_neg,Rat.neg_zero,Rat.add_zero]
theorem rowR_set{r d:List Rat}{k:Nat}{c:Rat}{i:Nat}(h:k+i<r.length):(rowR r d k c i).set (k+i) ((rowR r d k c i).getD (k+i) 0-c*d.getD i 0)=rowR r d k c (i+1):=by
 rw [rowR_getD h]
 refine List.ext_getElem (by simp [rowR]) fun j g1 g2=>?_
 simp only [rowR,List.getElem_set,List.getElem_map,List.getElem_range]
 split
 ·rename_i e
  subst e
  rw [if_neg (by omega),if_pos (by omega),show k+i-k=i by omega]
  show _=cf r (k+i)-c*cf d i
  rw [Rat.sub_eq_add_neg (cf r (k+i)) 0,Rat.neg_zero,Rat.add_zero]
  rfl
 ·rename_i e
  by_cases g:k≤j∧j<k+i
  ·rw [if_pos g,if_pos (by omega)]
  ·rw [if_neg g,if_neg (by omega)]
theorem rowR_all{r d:List Rat}(h:d.length≤r.length):qAd (rowR r d (remK r d) (remC r d) d.length)=stepRP r d:=by
 have e:qAd (stepRP r d)=stepRP r d:=by unfold stepRP;exact qIp _
 rw [←e]
 refine qEg fun i=>?_
 rw [qK7]
 by_cases hi:i<r.length
 ·show (rowR r d (remK r d) (remC r d) d.length).getD i 0=_
  rw [rowR_getD hi]
  by_cases g:i<remK r d
  ·rw [if_neg (by omega),if_pos g]
  ·rw [if_neg g,if_pos (by unfold remK at *;omega)]
 ·rw [qCr (by rw [rowR_len];omega),qCr (by omega)]
  split
  ·grind
  ·rename_i g
   rw [qCr (p:=d) (by unfold remK at *;omega)]
   grind
theorem rowR_ok{r d:List Rat}{k:Nat}{c:Rat}{K:Nat}(hr:∀x∈r,okQ K x)(hd:∀x∈d,okQ K x)(hc:okQ (2*K) c)(hK:1<K)(i:Nat):∀x∈rowR r d k c i,okQ (4*K) x:=fun x hx=>by
 obtain ⟨j,_,rfl⟩:=List.mem_map.1 hx
 have h2:okQ (3*K) (if k≤j∧j<k+i then c*cf d (j-k) else 0):=by
  split
  ·exact (hc.mul (qCv hd hK _)).mono (by omega)
  ·exact qB9 (by omega)
 exact ((qCv hr hK j).sub h2).mono (by omega)
def updQ(v:Nat->Rat)(k:Nat)(c:Rat)(j:Nat):Rat:=if j=k then c else v j
theorem updQ_step{v:Nat->Rat}{m:Nat}{p r d:List Rat}(h0:v (remK r d)=0)(hm:remK r d<m)(h:Eqv (addC (mulC ((List.range m).map v) d) r) p):Eqv (addC (mulC ((List.range m).map (updQ v (remK r d) (remC r d))) d) (stepRP r d)) p:=by
 have e:Eqv ((List.range m).map (updQ v (remK r d) (remC r d))) (qD2 ((List.range m).map v) r d):=fun i=>by
  unfold qD2
  rw [qBi,qBg,qBu]
  have cr:∀(g:Nat->Rat) i,cf ((List.range m).map g) i=if i<m then g i else 0:=fun g i=>by
   unfold cf
   split
   ·rename_i h;simp [List.getD_eq_getElem?_getD,h]
   ·rename_i h;simp [List.getD_eq_getElem?_getD,h]
  rw [cr,cr]
  unfold updQ
  by_cases e:i=remK r d
  ·subst e
   rw [if_pos hm,if_pos rfl,if_pos hm,h0,if_neg (by omega),Nat.sub_self,cf_zero,Rat.zero_add]
  ·have e2:(if i<remK r d then (0:Rat) else cf [remC r d] (i-remK r d))=0:=by
    split
    ·rfl
    ·exact qCr (by show 1≤i-remK r d;omega)
   rw [e2,Rat.add_zero,if_neg e]
 exact ((qMu (qFj d e) (Eqv.refl _)).trans (qTp _ r d)).trans h
theorem divP_end{v:Nat->Rat}{m:Nat}{p r d:List Rat}(hp:Tr p)(hd:Tr d)(d0:d≠[])(hr:Tr r)(hl:r.length<d.length)(h:Eqv (addC (mulC ((List.range m).map v) d) r) p):divP p d=(qAd ((List.range m).map v),r):=
 qHo hp hd d0 (qAl _) hr hl ((qMu (qFj d (qCf _)) (Eqv.refl _)).trans h)
theorem divP_start{p d:List Rat}{m:Nat}:Eqv (addC (mulC ((List.range m).map (fun _=>(0:Rat))) d) p) p:=fun i=>by
 have e:∀i,cf ((List.range m).map (fun _=>(0:Rat))) i=0:=fun i=>by
  unfold cf
  by_cases h:i<m<;>simp [List.getD_eq_getElem?_getD,h]
 have e2:cf (mulC ((List.range m).map (fun _=>(0:Rat))) d) i=0:=by
  rw [qCm _ _ i];exact qI2 d _ e i
 rw [qBg,e2,Rat.zero_add]
theorem divL_q{d:List Rat}{l:Nat}(hd:Tr d)(d0:d≠[])(L:HtP l d){N B:Nat}(hB:1<B):∀(n h:Nat) (q r:List Rat),Tr r->HtP h r->(∀i,okQ B (cf q i))->(∀i,i+d.length≤r.length->cf q i=0)->(∀i,N≤i->cf q i=0)->r.length+1-d.length≤N->h+(r.length+1-d.length)*l+l≤B->(∀i,okQ B (cf (divL n q r d).1 i))∧∀i,N≤i->cf (divL n q r d).1 i=0
 |0,h,q,r,hr,H,a1,a2,a3,a4,a5=>⟨a1,a3⟩
 |n+1,h,q,r,hr,H,a1,a2,a3,a4,a5=>by
  unfold divL
  split
  ·exact ⟨a1,a3⟩
  ·rename_i hl
   have h1:=qE6 hr hd d0 (by omega)
   have dl:=qA2 d0
   have hc:=remC_ok H L (qCo hd d0)
   have e:∀i,cf (qD2 q r d) i=if i=remK r d then remC r d else cf q i:=fun i=>by
    unfold qD2
    rw [qBi,qBg,qBu]
    by_cases g:i=remK r d
    ·subst g
     rw [if_neg (by omega),Nat.sub_self,cf_zero,if_pos rfl,a2 _ (by unfold remK;omega),Rat.zero_add]
    ·rw [if_neg g]
     split
     ·rw [Rat.add_zero]
     ·rw [qCr (p:=[remC r d]) (by show 1≤i-remK r d;omega),Rat.add_zero]
   obtain ⟨m,hm⟩:∃m,r.length+1-d.length=m+1:=⟨r.length-d.length,by omega⟩
   rw [hm,Nat.add_mul] at a5
   refine divL_q hd d0 L hB n (h+l) (qD2 q r d) (stepRP r d) (qAl _) (H.stepRP L (qCo hd d0)) (fun i=>?_) (fun i hi=>?_) (fun i hi=>?_) (by omega) ?_
   ·rw [e]
    split
    ·exact hc.mono (by omega)
    ·exact a1 i
   ·rw [e,if_neg (by unfold remK;omega)]
    exact a2 i (by omega)
   ·rw [e,if_neg (by unfold remK;omega)]
    exact a3 i hi
   ·have h3:((stepRP r d).length+1-d.length)*l≤m*l:=Nat.mul_le_mul_right _ (by omega)
    omega
theorem divP_q{p d:List Rat}{h l:Nat}(hp:Tr p)(hd:Tr d)(d0:d≠[])(H:HtP h p)(L:HtP l d)(h1:1<h):(∀i,okQ (h+(p.length+1-d.length)*l+l) (cf (divP p d).1 i))∧(divP p d).1.length≤p.length+1-d.length:=by
 obtain ⟨g1,g2⟩:=divL_q hd d0 L (N:=p.length+1-d.length) (B:=h+(p.length+1-d.length)*l+l) (by omega) (p.length+1) h [] p hp H (fun i=>qB9 (by omega)) (fun _ _=>rfl) (fun _ _=>rfl) (Nat.le_refl _) (Nat.le_refl _)
 exact ⟨g1,(qBy hp hd d0).1.len_lt fun i hi=>g2 i hi⟩
def dvdP(g p:List Rat):Prop:=∃u,Eqv p (mulC u g)
theorem dvd_eqv{g p q:List Rat}(h:dvdP g p)(e:Eqv q p):dvdP g q:=by
 obtain ⟨u,hu⟩:=h
 exact ⟨u,e.trans hu⟩
theorem dvd_add{g p q:List Rat}(h:dvdP g p)(k:dvdP g q):dvdP g (addC p q):=by
 obtain ⟨u,hu⟩:=h
 obtain ⟨v,hv⟩:=k
 exact ⟨addC u v,(qMu hu hv).trans (qKv u v g).symm⟩
theorem dvd_mul{g p:List Rat}(u:List Rat)(h:dvdP g p):dvdP g (mulC u p):=by
 obtain ⟨v,hv⟩:=h
 exact ⟨mulC u v,(qI3 u hv).trans (qJj u v g).symm⟩
theorem dvd_nil(g:List Rat):dvdP g []:=⟨[],fun i=>rfl⟩
theorem qJn{p:List Rat}(h:Tr p)(h0:p≠[]):1/lead p≠0∧lead p*(1/lead p)=1:=by
 have hl:=qCo h h0
 have h2:lead p*(1/lead p)=1:=by rw [Rat.div_def,Rat.one_mul];exact Rat.mul_inv_cancel _ hl
 exact ⟨fun e=>by rw [e,Rat.mul_zero] at h2;exact absurd h2 (by decide),h2⟩
theorem dvd_monic(p:List Rat)(hT:Tr p):dvdP (qA7 p) p:=by
 by_cases h0:p=[]
 ·subst h0;exact dvd_nil _
 ·refine ⟨[lead p],?_⟩
  refine Eqv.symm ((qRq (lead p) (qA7 p)).trans ?_)
  unfold qA7
  rw [qIr,(qJn hT h0).2,qDk]
  exact Eqv.refl _
theorem gcdL_dvd:∀(n:Nat) {p q:List Rat},Tr p->Tr q->q.length≤n->dvdP (gcdL n p q) p∧dvdP (gcdL n p q) q
 |0,p,q,hp,hq,h=>by
  have:q=[]:=List.length_eq_zero_iff.1 (by omega)
  subst this
  exact ⟨dvd_monic p hp,dvd_nil _⟩
 |n+1,p,q,hp,hq,h=>by
  rw [gcdL]
  split
  ·rename_i e
   subst e
   exact ⟨dvd_monic p hp,dvd_nil _⟩
  ·rename_i q0
   have hl:=qC4 hp hq q0
   obtain ⟨a,b⟩:=gcdL_dvd n hq (qEl hp hq q0) (by omega)
   obtain ⟨s1,s2,s3,s4⟩:=qBy hp hq q0
   exact ⟨dvd_eqv (dvd_add (dvd_mul (divP p q).1 a) b) s4.symm,a⟩
theorem qG4{p q:List Rat}(hp:Tr p)(hq:Tr q):dvdP (gcdP p q) p∧dvdP (gcdP p q) q:=gcdL_dvd _ hp hq (Nat.le_refl _)
theorem rem_of_dvd{g p:List Rat}(hp:Tr p)(hg:Tr g)(g0:g≠[])(h:dvdP g p):remP p g=[]:=by
 obtain ⟨u,hu⟩:=h
 have hl:=qA2 g0
 have e:=qHo (q:=qAd u) (r:=[]) hp hg g0 (qAl u) Tr.nil (by simpa using hl) (fun i=>by
  rw [qBg,qFj g (qCf u) i,←hu i,cf_nil,Rat.add_zero])
 unfold remP
 rw [e]
def mulT(p q:List Rat):List Rat:=qAd (mulC p q)
theorem mulT_nil(q:List Rat):mulT [] q=[]:=rfl
theorem qEm(p q:List Rat):Tr (mulT p q):=qAl _
theorem qE0{p m:List Rat}(hp:Tr p)(hm:Tr m)(p0:p≠[])(m0:m≠[]):(mulT p m).length=p.length+m.length-1∧lead (mulT p m)=lead p*lead m:=by
 obtain ⟨h1,h2⟩:=qOs hp hm (qA2 p0) (qA2 m0)
 refine ⟨h1,?_⟩
 have a:=qA2 p0
 have b:=qA2 m0
 unfold lead mulT
 rw [h1,qBi,show p.length+m.length-1-1=p.length+m.length-2 by omega]
 exact h2
theorem qMk{p m:List Rat}(hp:Tr p)(hm:Tr m)(p0:p≠[])(m0:m≠[]):mulT p m≠[]:=fun h=>by
 have:=(qE0 hp hm p0 m0).1
 rw [h] at this
 have a:=qA2 p0
 have b:=qA2 m0
 simp at this
 omega
theorem qUc{p m:List Rat}(hp:Tr p)(hm:Tr m)(m1:lead m=1):qA7 (mulT p m)=mulT (qA7 p) m:=by
 by_cases p0:p=[]
 ·subst p0;rfl
 ·have m0:m≠[]:=fun e=>by rw [e] at m1;exact absurd m1 (by decide)
  have hl:=(qE0 hp hm p0 m0).2
  rw [m1,Rat.mul_one] at hl
  refine (qEv (qEm p m)).ext (qEm _ _) ?_
  unfold qA7
  rw [hl]
  exact ((smul_eqv (qCf _)).trans (qHb _ p m).symm).trans (qCf _).symm
theorem rem_mulT{p q m:List Rat}(hp:Tr p)(hq:Tr q)(q0:q≠[])(hm:Tr m)(m0:m≠[]):remP (mulT p m) (mulT q m)=mulT (remP p q) m:=by
 obtain ⟨s1,s2,s3,s4⟩:=qBy hp hq q0
 have lq:=(qE0 hq hm q0 m0).1
 have hq1:=qA2 q0
 have hm1:=qA2 m0
 have hlt:(mulT (remP p q) m).length<(mulT q m).length:=by
  by_cases r0:remP p q=[]
  ·rw [r0,mulT_nil,lq];show 0<_;omega
  ·have:=(qE0 s2 hm r0 m0).1
   have s3':(remP p q).length<q.length:=s3
   have r1:=qA2 r0
   rw [lq]
   show (mulT (remP p q) m).length<_
   rw [show (mulT (remP p q) m).length=(remP p q).length+m.length-1 from this]
   omega
 have e:=qHo (p:=mulT p m) (d:=mulT q m) (q:=(divP p q).1) (r:=mulT (remP p q) m) (qEm p m) (qEm q m) (qMk hq hm q0 m0) s1 (qEm _ _) hlt (by
  have a1:Eqv (mulC (divP p q).1 (mulT q m)) (mulC (mulC (divP p q).1 q) m):=(qI3 _ (qCf _)).trans (qJj _ q m).symm
  have a2:Eqv (addC (mulC (divP p q).1 (mulT q m)) (mulT (remP p q) m)) (mulC (addC (mulC (divP p q).1 q) (remP p q)) m):=(qMu a1 (qCf _)).trans (qKv _ _ m).symm
  exact (a2.trans (qFj m s4)).trans (qCf _).symm)
 unfold remP at e ⊢
 rw [e]
theorem gcdL_mulT{m:List Rat}(hm:Tr m)(m1:lead m=1):∀(n:Nat) {p q:List Rat},Tr p->Tr q->gcdL n (mulT p m) (mulT q m)=mulT (gcdL n p q) m
 |0,p,q,hp,hq=>qUc hp hm m1
 |n+1,p,q,hp,hq=>by
  have m0:m≠[]:=fun e=>by rw [e] at m1;exact absurd m1 (by decide)
  rw [gcdL,gcdL]
  by_cases q0:q=[]
  ·subst q0
   rw [if_pos rfl,if_pos (mulT_nil m)]
   exact qUc hp hm m1
  ·rw [if_neg q0,if_neg (qMk hq hm q0 m0),rem_mulT hp hq q0 hm m0]
   exact gcdL_mulT hm m1 n hq (qEl hp hq q0)
theorem gcdP_mulT{p q m:List Rat}(hp:Tr p)(hq:Tr q)(hm:Tr m)(m1:lead m=1):gcdP (mulT p m) (mulT q m)=mulT (gcdP p q) m:=by
 have m0:m≠[]:=fun e=>by rw [e] at m1;exact absurd m1 (by decide)
 unfold gcdP
 rw [gcdL_mulT hm m1 _ hp hq]
 by_cases q0:q=[]
 ·subst q0;rfl
 ·have:=(qE0 hq hm q0 m0).1
  have hm1:=qA2 m0
  rw [qR6 (mulT q m).length q.length hp hq (by omega) (Nat.le_refl _)]
theorem qEo{p q:List Rat}(hp:Tr p)(hq:Tr q):Tr (gcdP p q)∧((p≠[]∨q≠[])->gcdP p q≠[]∧lead (gcdP p q)=1):=by
 have key:∀(n:Nat) {p q:List Rat},Tr p->Tr q->q.length≤n->Tr (gcdL n p q)∧((p≠[]∨q≠[])->gcdL n p q≠[]∧lead (gcdL n p q)=1):=by
  intro n
  induction n with
  |zero=>
   intro p q hp hq h
   have:q=[]:=List.length_eq_zero_iff.1 (by omega)
   subst this
   refine ⟨qEv hp,fun h=>?_⟩
   have p0:p≠[]:=h.resolve_right (fun h=>h rfl)
   exact ⟨fun e=>p0 (smul_eq_nil.1 e),qUj hp p0⟩
  |succ n ih=>
   intro p q hp hq h
   rw [gcdL]
   split
   ·rename_i e
    subst e
    refine ⟨qEv hp,fun h=>?_⟩
    have p0:p≠[]:=h.resolve_right (fun h=>h rfl)
    exact ⟨fun e=>p0 (smul_eq_nil.1 e),qUj hp p0⟩
   ·rename_i q0
    have hl:=qC4 hp hq q0
    obtain ⟨a,b⟩:=ih hq (qEl hp hq q0) (by omega)
    exact ⟨a,fun _=>b (.inl q0)⟩
 exact key _ hp hq (Nat.le_refl _)
theorem mul_num{k:Nat}{q:List Rat}{d:Int}(d0:d≠0)(Q:Nat->Int)(hq:∀i,ln (Q i).natAbs<k∧cf q i=Rat.divInt (Q i) d){c:Int}(c0:c≠0){h:Nat}:∀(p:List Rat) (P:Nat->Int),(∀i,ln (P i).natAbs<h∧cf p i=Rat.divInt (P i) c)->∃R:Nat->Int,∀i,ln (R i).natAbs<h+k+p.length∧cf (mulC p q) i=Rat.divInt (R i) (c*d)
 |[],P,hp=>⟨fun _=>0,fun i=>⟨by rw [show (0:Int).natAbs=0 from rfl,qF7];have:=(hq 0).1;have:=(hp 0).1;simp;omega,by rw [show cf (mulC [] q) i=0 from rfl];exact (Rat.zero_divInt _).symm⟩⟩
 |a::p,P,hp=>by
  obtain ⟨R,hR⟩:=mul_num d0 Q hq c0 p (fun i=>P (i+1)) (fun i=>hp (i+1))
  have ha:=hp 0
  rw [cf_zero] at ha
  have m0:∀i,ln (P 0*Q i).natAbs<h+k+p.length:=fun i=>by
   have:=qDo ha.1 (hq i).1;omega
  refine ⟨fun i=>match i with|0=>P 0*Q 0|i+1=>P 0*Q (i+1)+R i,fun i=>?_⟩
  cases i with
  |zero=>
   refine ⟨by have:=m0 0;simp only [List.length_cons];omega,?_⟩
   rw [qEq,ha.2,(hq 0).2,Rat.divInt_mul_divInt]
  |succ i=>
   refine ⟨?_,?_⟩
   ·have:=ln_addZ (m0 (i+1)) (hR i).1
    simp only [List.length_cons];omega
   ·rw [qC7,(hR i).2,ha.2,(hq (i+1)).2,Rat.divInt_mul_divInt,Rat.divInt_add_divInt _ _ (Int.mul_ne_zero c0 d0) (Int.mul_ne_zero c0 d0)]
    rw [←Int.add_mul,Rat.divInt_mul_right (Int.mul_ne_zero c0 d0)]
theorem HtP.mul{h k:Nat}{p q:List Rat}(H:HtP h p)(K:HtP k q):HtP (h+k+p.length) (mulC p q):=by
 obtain ⟨c,P,c0,hc,hp⟩:=H
 obtain ⟨d,Q,d0,hd,hq⟩:=K
 obtain ⟨R,hR⟩:=mul_num d0 Q hq c0 p P hp
 refine ⟨c*d,R,Int.mul_ne_zero c0 d0,?_,hR⟩
 have:=qDo hc hd
 omega
theorem JG.step2{p q:List Rat}(h:JG p q)(q0:q≠[]):∃M,HtP M p∧HtP M q∧M+(p.length+1-q.length)*M+M≤2000000∧HtP (M+(p.length+1-q.length)*M) (remP p q)∧M+(p.length+1-q.length)*M≤2000000∧JG q (qA7 (remP p q)):=by
 obtain ⟨M,h1,h2,h3⟩:=h.fit
 have hr:=qOf h.tp h.tq q0 h1 h2
 have hl:=qC4 h.tp h.tq q0
 have hq:=qA2 q0
 have hml:(qA7 (remP p q)).length=(remP p q).length:=qBd _ _
 have k3:3≤3^q.length:=by
  have:=Nat.pow_le_pow_right (show 0<3 by decide) hq
  simpa using this
 obtain ⟨B,hB⟩:∃B,(p.length+1-q.length)*M=B:=⟨_,rfl⟩
 have k1:(M+B+1+1)*3^q.length≤Bud:=by
  by_cases c:q.length<p.length
  ·rw [if_pos c] at h3
   obtain ⟨e,he⟩:∃e,p.length-q.length=e:=⟨_,rfl⟩
   have p3:=qMi e (by omega)
   have e4:3^p.length=3^e*3^q.length:=by rw [←Nat.pow_add];congr 1;omega
   rw [e4,←Nat.mul_assoc] at h3
   refine Nat.le_trans (Nat.mul_le_mul_right _ ?_) h3
   rw [show p.length+1-q.length=e+1 by omega,Nat.add_mul,Nat.one_mul] at hB
   have:=Nat.mul_le_mul_left (M+1) p3
   have e5:(M+1)*(e+2)=e*M+2*M+(e+2):=by rw [Nat.add_mul,Nat.mul_add,Nat.mul_comm M e];omega
   omega
  ·rw [if_neg c,Nat.pow_succ,Nat.mul_comm (3^q.length) 3,←Nat.mul_assoc] at h3
   refine Nat.le_trans (Nat.mul_le_mul_right _ ?_) h3
   have:B≤M:=by
    rw [←hB]
    rcases Nat.lt_or_ge (p.length+1-q.length) 1 with g|g
    ·rw [show p.length+1-q.length=0 by omega];omega
    ·rw [show p.length+1-q.length=1 by omega];omega
   omega
 have k2:=Nat.le_trans (Nat.mul_le_mul_left (M+B+1+1) k3) k1
 unfold Bud at k2
 rw [hB] at hr
 refine ⟨M,h1,h2,by omega,by rw [hB];exact hr,by omega,h.tq,qEv (qEl h.tp h.tq q0),M+B+1,h2.mono (by omega),hr.monic,?_⟩
 rw [hml,if_pos hl]
 exact k1
theorem JG.gcd:∀(n:Nat) {p q:List Rat},JG p q->q.length≤n->∃M,HtP (M+1) (gcdP p q)∧(M+1)*3^(gcdP p q).length≤Bud:=by
 intro n
 induction n with
 |zero=>
  intro p q h hl
  have:q=[]:=List.length_eq_zero_iff.1 (by omega)
  subst this
  obtain ⟨M,h1,h2,h3⟩:=h.fit
  rw [qG3]
  by_cases p0:p=[]
  ·subst p0
   exact ⟨1,HtP.nil,by decide⟩
  ·have:=qA2 p0
   rw [if_pos (by simpa using this)] at h3
   exact ⟨M,h1.monic,by rw [show (qA7 p).length=p.length from qBd _ _];exact h3⟩
 |succ n ih=>
  intro p q h hl
  by_cases q0:q=[]
  ·subst q0;exact ih h (by simp)
  ·obtain ⟨M,_,_,_,hs⟩:=h.step q0
   have e:=qGn h.tp h.tq q0 (a:=1/lead q) (b:=1) (qJn h.tq q0).1 (by decide)
   rw [qDk] at e
   rw [show gcdP p q=gcdP (qA7 q) (remP p q) from e]
   exact ih hs (by have:=qC4 h.tp h.tq q0;omega)
theorem ht_one{g:List Rat}(hl:g.length=1)(h1:lead g=1):HtP 3 g:=by
 match g,hl with
 |[a],_=>
  have:a=1:=h1
  subst this
  exact ⟨1,fun i=>match i with|0=>1|_+1=>0,by decide,by show ln 1<3;rw [qKw];decide,fun i=>by
   cases i with
   |zero=>exact ⟨by show ln 1<3;rw [qKw];decide,by decide+kernel⟩
   |succ i=>exact ⟨by show ln 0<3;rw [qF7];decide,(Rat.zero_divInt 1).symm⟩⟩
end Go.Vw
