import Derived.Test.YtoealglbimbbmaaGreatDoorQSk
namespace Go.Proofs.YtoealglbimbbmaaGreatDoor.S
open Go Go.Proofs
set_option linter.unusedVariables false
set_option linter.unusedSimpArgs false
section
variable {str:Int→Nat}{h0:Hp}{n me:Nat}{G G':Gs}
theorem xh.dis (h:xh str h0 n me G G'):(∀y∈G.L,y∈G'.L)∧∀x∈G'.L,x∈G.L∨∀y∈G.L,x.1<y.1→∀u∈y.2,∀v∈x.2,u.place≠v.place:=by
 induction h with
 | refl=>exact⟨fun y hy=>hy,fun x hx=>.inl hx⟩
 | step _ _ ht _ _ ih =>
  rcases ht.L with e | ⟨now,cs,_,e,_,d⟩
  ·rw [e];exact ih
  ·rw [e]
   refine⟨fun y hy=>jC.2 (.inr (ih.1 y hy)),fun x hx=>?_⟩
   rcases jC.1 hx with rfl | hx
   ·exact .inr fun y hy h1 u hu v hv=>d y (ih.1 y hy) h1 u hu v hv
   ·exact ih.2 x hx
end
section
variable {S:dr}{h0:Hp}{n i:Nat}{x:io}{L:pj}{t:bq}{a:bi}
theorem MI.ta (h:MI S h0 n x L):∀b∈jN x,∃j,Pd S h0 n (dI x.mem L (zq x.thr)) x.mem.w.length j b:=fun a ha=>by
 obtain⟨t,ht,hat⟩:=List.mem_flatMap.1 ha
 obtain⟨i,hi,e⟩:=List.getElem_of_mem ht
 have hT:=h.thr i t (by rw [List.getElem?_eq_getElem hi,e])
 rcases List.mem_append.1 hat with g | g
 ·exact⟨n,hT.b.past a g⟩
 ·split at g
  ·rename_i c1
   obtain⟨q,hq,hA,_⟩:=hT.run c1
   rw [hq] at g
   simp only at g
   split at g
   ·rename_i hb
    rw [List.mem_singleton.1 g]
    exact⟨i,(hA.ta hb).2⟩
   ·cases g
  ·cases g
theorem MI.reads (h:MI S h0 n x L){b:Ta}(hb:b∈jN x):∀r∈b.reads,wP h0 L b.at_ r.place=r.word:=fun r hr=>by
 obtain⟨j,hj⟩:=h.ta b hb
 obtain⟨rd,h1⟩:=hj.all
 exact h1.reads r hr
end
theorem xE.last {hh h':Hp}{σ σ':Sg}{Q:List Rc}{y:Rc}(H:xE hh σ Q h' σ')(hs:(Q.map (·.lg)).Pairwise mo)(hy:y∈Q)(hm:∀z∈Q,z.stamp≤y.stamp):∀u∈y.cells,qK σ'.B σ'.sh u.place:=by
 obtain⟨p,q,rfl⟩:=GL hy
 have hq:q=[]:=by
  cases q with
  | nil=>rfl
  | cons z q =>
   have h1:=(PF hs).2 z List.mem_cons_self
   have h2:=hm z (by simp)
   omega
 subst hq
 obtain⟨h1,σ1,_,H2⟩:=H.split
 cases H2 with
 | cons t H2 =>
  cases H2
  exact t.pl
structure SI (S:dr)(h0:Hp)(σ0:Sg)(n:Nat)(x:io)(L:pj)(Q:List Rc):Prop where
 qp:QP h0 σ0 Q (x.thr.flatMap eM)
 lg:Q.map (·.lg)=L
 back:∀y∈Q,∃a∈jN x,a.wrote=true∧y.stamp=a.stamp∧y.cells=a.cells∧y.ks=a.reads
 gv:∀D∈Q,∀g∈D.gs,∀u∈x.thr,yp u g.stamp
 thr:∀i t,x.thr[i]? = some t→Bb x.thr x.mem.n (x.mem.s.getD i 0) t
 th:(n:Int)=S.threads
section
variable {S:dr}{h0:Hp}{σ0:Sg}{n i nl nw:Nat}{x x':io}{L L':pj}{Q:List Rc}{t t':bq}{a a':bi}{G:Gs}
theorem SI.inR (h:SI S h0 σ0 n x L Q)(ht:x.thr[i]? = some t)(hn:t.now=some a)(hw:a.inn.wr=false){τ:Int}(hτ:t.sweep=true→∀g∈t.rests,g.stamp≤τ){hh:Hp}{σ:Sg}(hc:xE h0 σ0 (Q.filter fun y=>decide (y.stamp≤τ)) hh σ){bs:List Int}(hbs:bs=[]∨(t.sweep=true∧bs=t.rests.map (·.place))):T4 bs σ:=by
 intro m hm
 rcases hbs with e | ⟨e1,e2⟩
 ·rw [e] at hm;cases hm
 rw [e2] at hm
 obtain⟨g,hg,rfl⟩:=List.mem_map.1 hm
 have hle:=hτ e1 g hg
 have hwt:KN t=false:=by unfold KN;rw [hn];simp [hw]
 have hgP:g∈x.thr.flatMap eM:=List.mem_flatMap.2 ⟨t,List.mem_of_getElem? ht,by unfold eM;rw [hwt];exact List.mem_append_right _ hg⟩
 obtain⟨⟨F,hF,f1,f2⟩,f3⟩:=h.qp.p g hgP
 have hpw:((Q.filter fun y=>decide (y.stamp≤τ)).map (·.lg)).Pairwise mo:=by
  have:=h.qp.q.log
  rw [List.pairwise_map] at this ⊢
  exact this.filter _
 exact hc.rests hpw (F:=F) (List.mem_filter.2 ⟨hF,by simp;omega⟩) f2 fun D hD hd=>by
  have:=f3 D (List.mem_filter.1 hD).1 hd
  omega
theorem SI.safe (h:SI S h0 σ0 n x L Q)(hM:MI S h0 n x L)(ht:x.thr[i]? = some t)(hk:(az t).1.kind=1∨(az t).1.kind=2) :
  ∃σ,Fm (Ik h0 L) σ∧∀c,1≤c→c≤4→∀b∈σ.fl c,¬(b<(az t).1.place∧(az t).1.place<b+yE c):=by
 have hT:=h.thr i t ht
 have hI:=hM.thr i t ht
 by_cases h1:t.state=1
 ·obtain⟨a,hn,hA,h8,_,hrs⟩:=hI.run h1
  obtain⟨hP,hP2,hP3⟩:=hT.att h1 a hn
  have en:az t=be a:=by unfold az;rw [if_pos h1,hn]
  rw [en] at hk ⊢
  have hst:=hA.st
  have hs36:(a.state=3∨a.state=6)∨a.state=4∨a.state=5:=by
   unfold be at hk
   split at hk
   ·simp at hk
   split at hk
   ·simp at hk
   split at hk
   ·simp at hk
   split at hk
   ·simp at hk
   ·omega
  have hb:a.begun=true:=by rw [hA.begun];simp;omega
  have hbeg:=hA.beg (by omega)
  have hgv:∀D∈Q,∀g∈D.gs,g.stamp≤a.beg:=fun D hD g hg=>h.gv D hD g hg t (List.mem_of_getElem? ht) h1 a hn hb
  have enx:be a=a.inn.next:=by unfold be;rw [if_neg (by omega),if_neg (by omega),if_neg (by omega),if_neg (by omega),if_neg (by omega)]
  rw [enx] at hk ⊢
  rcases hs36 with (s3 | s6) | s45
  ·obtain⟨_,f,hf,hF⟩:=hA.fet s3
   have hw:a.inn.wr=false:=by rw [hf]
   rw [hf] at hk ⊢
   have hplace:(eB f).1.kind=1∨(eB f).1.kind=2→(eB f).1.place=a.v.need:=fun g=>by
    unfold eB at g ⊢
    rw [if_pos hF.fin] at g ⊢
    split at g
    ·rename_i g1;rw [if_pos g1];exact hF.pl
    ·simp at g
   rw [←h.lg]
   have hpl:(rG.next (.fetch f)).1.place=a.v.need:=hplace hk
   rw [hpl]
   refine h.qp.q.safe (t:=a.stamp) (fun σ h1' e hc=>?_) fun D hD g hg=>by have:=hgv D hD g hg;omega
   have hs:=hc.shp h.qp.q.st0
   refine hP.need (.inl s3) h1' σ hs (fun c hcc=>?_) (h.inR ht hn hw (fun hs g hg=>by have:=hT.sw hs g hg t (List.mem_of_getElem? ht) h1 a hn hb;omega) hc ?_)
   ·rw [e,h.lg]
    have:=(hA.all (by omega)).reads c hcc
    have e2:a.at_=a.stamp:=by unfold bi.at_;rw [hw];rfl
    rw [e2] at this
    exact this
   ·by_cases hsw:t.sweep=true
    ·exact .inr ⟨hsw,hP3 hsw⟩
    ·exact .inl (hP.blk (by rw [hP2];simpa using hsw))
  ·obtain⟨c,hc,hfin⟩:=hA.com s6
   obtain⟨hC,_,hcells,hws,_⟩:=hA.isc c hc
   rw [hc] at hk ⊢
   have hk5:c.state=5:=by
    refine Classical.byContradiction fun g5=>?_
    have hk:(bj c).1.kind=1∨(bj c).1.kind=2:=hk
    unfold bj at hk
    rw [if_pos hfin] at hk
    simp only [if_neg g5] at hk
    split at hk
    ·simp at hk
    split at hk
    ·simp at hk
    split at hk
    ·simp at hk
    split at hk
    ·simp at hk
    split at hk
    ·simp at hk
    split at hk
    ·simp at hk
    ·simp at hk
   have hpos:=((hC.ok.here hfin).2.2.2.1 hk5).2
   have hpl:(rG.next (.com c)).1.place=(c.cells.getD c.pos ⟨0,0⟩).place:=by
    show (bj c).1.place=_
    unfold bj
    rw [if_pos hfin,if_neg (by omega),if_neg (by omega),if_neg (by omega),if_neg (by omega),if_neg (by omega),if_pos hk5]
   have hw:a.inn.wr=true:=by rw [hc];simp [rG.wr,hC.wr.2 (.inr ⟨hfin,.inl hk5⟩),hfin]
   have hbs:=hbeg.2.2.2 hw
   have htold:eP a t.born 0∈jN x:=List.mem_flatMap.2 ⟨t,List.mem_of_getElem? ht,by
    refine List.mem_append_right _ ?_
    rw [if_pos h1,hn]
    simp only [hb,if_true,List.mem_singleton]⟩
   have hwt:(eP a t.born 0).wrote=true:=by rw [hA.wrote];exact hw
   have hL:=(hM.told.mem (a.stamp,a.v.l.cells)).2 ⟨_,htold,hwt,by rw [hA.cells hw]⟩
   rw [←h.lg] at hL
   obtain⟨y,hy,ey⟩:=List.mem_map.1 hL
   have ey1:y.stamp=a.stamp:=congrArg Prod.fst ey
   have ey2:y.cells=a.v.l.cells:=congrArg Prod.snd ey
   rw [←h.lg,hpl]
   refine h.qp.q.safe (t:=a.stamp) (fun σ h1' e hcn=>?_) fun D hD g hg=>by have:=hgv D hD g hg;omega
   have hpw:((Q.filter fun y=>decide (y.stamp≤a.stamp)).map (·.lg)).Pairwise mo:=by
    have:=h.qp.q.log
    rw [List.pairwise_map] at this ⊢
    exact this.filter _
   refine hcn.last hpw (y:=y) (List.mem_filter.2 ⟨hy,by simp [ey1]⟩) (fun z hz=>by have:=(List.mem_filter.1 hz).2;simp only [decide_eq_true_eq] at this;omega) _ ?_
   rw [ey2,←hcells,List.getD_eq_getElem?_getD,List.getElem?_eq_getElem hpos]
   exact List.getElem_mem hpos
  ·obtain⟨_,e,he,hE⟩:=hA.ext s45
   rw [he] at hk
   exfalso
   have hk:(ia e).1.kind=1∨(ia e).1.kind=2:=hk
   unfold ia at hk
   rw [if_pos hE.fin] at hk
   split at hk <;> simp at hk
 ·exfalso
  unfold az at hk
  rw [if_neg h1] at hk
  split at hk
  ·simp at hk
  split at hk
  ·simp at hk
  ·simp [oQ] at hk
end
section
variable {S:dr}{h0:Hp}{σ0:Sg}{n i nl nw:Nat}{x x':io}{L L':pj}{Q:List Rc}{t t' u:bq}{a a':bi}{G:Gs}{T T' sv:Int}{l l':List bq}{m:fE}{o:pD}{ρ:z6}{an:eW}
theorem P5 (h:o.kind≠9):(ay m o).1.s=m.s:=by
 have:(bz m o).1.s=m.s:=by
  unfold bz
  repeat' split
  all_goals first | rfl | contradiction
 unfold ay
 split
 ·exact this
 ·exact this
theorem Bb.conv (h:Bb l T sv u)(hT:T≤T')(hb:∀(j:Nat)(u':bq),l'[j]? = some u'→∃w,l[j]? = some w∧∀τ,τ≤T→yp w τ→yp u' τ):Bb l' T' sv u:=by
 refine⟨h.jobs,h.att,fun g hg=>⟨(h.le g hg).1,Int.le_trans (h.le g hg).2 hT⟩,fun h5 j s u' h1 h2 g hg h3=>?_,fun hs g hg u' hu'=>?_,h.slot,h.off⟩
 ·obtain⟨w,hw,hbw⟩:=hb j u' h2
  exact hbw _ (h.le g (List.mem_append_left _ hg)).2 (h.look h5 j s w h1 hw g hg h3)
 ·obtain⟨j,hj⟩:=List.getElem?_of_mem hu'
  obtain⟨w,hw,hbw⟩:=hb j u' hj
  exact hbw _ (h.le g (List.mem_append_right _ hg)).2 (h.sw hs g hg w (List.mem_of_getElem? hw))
theorem TI {s v:Int}(h:Bb l T sv u)(hn:(u.rests.map (·.place)).Nodup):Bb l T sv (dX u s v)∧eM (dX u s v)=eM u∧∀τ,yp u τ→yp (dX u s v) τ:=by
 unfold dX
 cases hw:u.now with
 | none=>exact⟨h,rfl,fun _ g=>g⟩
 | some a =>
  simp only
  split
  ·split
   ·rename_i c4
    have hwr:KN u=false:=by unfold KN;rw [hw];simp [c4]
    have hp:eM u=u.limbo++u.rests:=by unfold eM;rw [hwr];rfl
    have hN:C1 l T u.jobs (eM u) (dy u):=nj h.jobs hn h.sw ⟨[],by rw [hp,List.append_nil]⟩
    have hsv:sv=0:=h.off (by omega)
    obtain⟨f1,f2,f3,_⟩:=B1 h.jobs hn
    refine⟨by rw [hsv];exact hN.thrP h.jobs (by rw [hp];exact h.le),by rw [hN.fresh.pend,f2,f3,hp],fun τ _=>hN.fresh.bg⟩
   ·split
    ·refine⟨⟨h.jobs,fun g b hb=>h.att g b (by rw [hw];exact hb),h.le,h.look,h.sw,fun g b hb=>h.slot g b (by rw [hw];exact hb),h.off⟩,?_,fun τ g h1 b hb=>g h1 b (by rw [hw];exact hb)⟩
     unfold eM KN U5
     rw [hw]
    ·exact⟨h,rfl,fun _ g=>g⟩
  ·exact⟨h,rfl,fun _ g=>g⟩
theorem Py {q:bi×Int×Int}:3≤(jr q).state:=by
 unfold jr;repeat' split
 all_goals simp
theorem Q7 (h3:3≤a.state)(h6:a.state≤6)(hok:a.inn≠.none):3≤(ao ρ a an).state:=by
 unfold ao
 rw [if_neg (by omega),if_neg (by omega),if_neg (by omega),if_neg (by omega),if_neg (by omega)]
 have hm:∀y:bi,(fM y).state=y.state:=fun y=>by
  show (if y.wr=true then { y with stamp:=y.inn.stamp } else y).state=_
  split <;> rfl
 unfold dN
 rw [hm]
 split
 ·exact h3
 split
 ·show (3:Int)≤7;decide
 cases hi:a.inn with
 | none=>exact absurd hi hok
 | fetch f =>
  show 3≤(cy ρ { a with inn:=.fetch (df f an) } (df f an)).state
  unfold cy
  split
  ·show (3:Int)≤4;decide
  split
  ·exact Py
  split
  ·show (3:Int)≤7;decide
  ·show (3:Int)≤7;decide
 | ext e =>
  show 3≤(if a.state=4 then qt { { a with inn:=.ext (dS e an) } with stamp:=(dS e an).stamp } a.v.need else fi { { a with inn:=.ext (dS e an) } with stamp:=(dS e an).stamp } 3 0 (-1)).state
  split
  ·show (3:Int)≤3;decide
  ·show (3:Int)≤7;decide
 | com c=>show (3:Int)≤7;decide
theorem Ns (hA:iN S h0 n G nl nw i a)(hi:i<m.s.length)(h8:a.state≠8)(hin:3≤a.state→a.state≤6→a.inn≠.none)(hstp:a.state=2→0≤a.stamp∧a.stamp<4611686018427387904)
  (hs:(a.state=0→m.s.getD i 0=0)∧(a.state=1∨a.state=2→m.s.getD i 0=1)∧(3≤a.state→m.s.getD i 0=a.beg+1)∧(a.state=2→a.stamp=a.beg))
  (hb:(a.begun=true→(ao ρ a an).begun=true∧(ao ρ a an).beg=a.beg)) :
  (∀j,j≠i→(ay m (be a).1).1.s.getD j 0=m.s.getD j 0)∧(a.state≠7→((ao ρ a an).state=0→(ay m (be a).1).1.s.getD i 0=0)∧((ao ρ a an).state=1∨(ao ρ a an).state=2→(ay m (be a).1).1.s.getD i 0=1)∧(3≤(ao ρ a an).state→(ay m (be a).1).1.s.getD i 0=(ao ρ a an).beg+1)∧((ao ρ a an).state=2→(ao ρ a an).stamp=(ao ρ a an).beg))∧(a.state=7→(ay m (be a).1).1.s.getD i 0=0):=by
 have hset:∀(w:Int),(∀j,j≠i→(m.s.set i w).getD j 0=m.s.getD j 0)∧(m.s.set i w).getD i 0=w:=fun w=>by
  refine⟨fun j hj=>?_,?_⟩
  ·rw [List.getD_eq_getElem?_getD,List.getElem?_set_ne (Ne.symm hj),←List.getD_eq_getElem?_getD]
  ·rw [List.getD_eq_getElem?_getD,List.getElem?_set_self hi];rfl
 have hep:∀w:Int,(ay m ⟨9,a.me,0,w,ae,ae⟩).1.s=m.s.set i w:=fun w=>by
  obtain⟨c,e⟩:=JU (m:=m) (a:=a.me) (w:=w) (o:=0) (u:=ae) (v:=ae) (by rw [hA.me];omega)
  rw [e]
  show m.s.set a.me.toNat w=_
  rw [hA.me];rfl
 have hst:=hA.st
 by_cases s0:a.state=0
 ·have en:(be a).1=⟨9,a.me,0,1,ae,ae⟩:=by unfold be;rw [if_pos s0]
  have et:(ao ρ a an).state=1:=by unfold ao;rw [if_neg h8,if_pos s0]
  rw [en,hep]
  exact⟨(hset 1).1,fun _=>⟨fun g=>by omega,fun _=>(hset 1).2,fun g=>by omega,fun g=>by omega⟩,fun g=>by omega⟩
 by_cases s2:a.state=2
 ·have en:(be a).1=⟨9,a.me,0,IntKind.wrap .u64 (a.stamp+1),ae,ae⟩:=by unfold be;rw [if_neg s0,if_neg (by omega),if_pos s2]
  have et:ao ρ a an=fh ρ a:=by unfold ao;rw [if_neg h8,if_neg s0,if_neg (by omega),if_pos s2]
  have e3:3≤(ao ρ a an).state:=by
   rw [et];exact Py
  have hstp:=hstp s2
  have ew:IntKind.wrap .u64 (a.stamp+1)=a.stamp+1:=CI (by omega) (by omega)
  have eb:=(hb (by rw [hA.begun,s2];rfl)).2
  have:=hs.2.2.2 s2
  rw [en,hep,ew]
  exact⟨(hset _).1,fun _=>⟨fun g=>by omega,fun g=>by omega,fun _=>by rw [(hset _).2,eb];omega,fun g=>by omega⟩,fun g=>by omega⟩
 by_cases s7:a.state=7
 ·have en:(be a).1=⟨9,a.me,0,0,ae,ae⟩:=by unfold be;rw [if_neg s0,if_neg (by omega),if_neg s2,if_pos s7]
  rw [en,hep]
  exact⟨(hset 0).1,fun g=>absurd s7 g,fun _=>(hset 0).2⟩
 by_cases s1:a.state=1
 ·have en:(be a).1=⟨6,0,0,0,ae,ae⟩:=by unfold be;rw [if_neg s0,if_pos s1]
  have et:ao ρ a an={ a with begun:=true,beg:=an.word,stamp:=an.word,state:=2 }:=by unfold ao;rw [if_neg h8,if_neg s0,if_pos s1]
  rw [en,P5 (by decide),et]
  exact⟨fun _ _=>rfl,fun _=>⟨fun g=>(by cases g),fun _=>hs.2.1 (.inl s1),fun g=>by(have g:(3:Int)≤2:=g;omega),fun _=>rfl⟩,fun g=>by omega⟩
 ·have en:(be a).1=a.inn.next.1:=by unfold be;rw [if_neg s0,if_neg s1,if_neg s2,if_neg s7,if_neg h8]
  have hk:a.inn.next.1.kind≠9:=by
   cases a.inn with
   | none=>decide
   | fetch f =>
    show (eB f).1.kind≠9
    unfold eB
    repeat' split
    all_goals simp [oQ]
   | ext e =>
    show (ia e).1.kind≠9
    unfold ia
    repeat' split
    all_goals simp [oQ]
   | com c =>
    show (bj c).1.kind≠9
    unfold bj
    repeat' split
    all_goals simp [oQ]
  have e3:=Q7 (ρ:=ρ) (an:=an) (a:=a) (by omega) (by omega) (hin (by omega) (by omega))
  have eb:=(hb (by rw [hA.begun];simp;omega)).2
  rw [en,P5 hk]
  exact⟨fun _ _=>rfl,fun _=>⟨fun g=>by omega,fun g=>by omega,fun _=>by rw [eb];exact hs.2.2.1 (by omega),fun g=>by omega⟩,fun g=>absurd g s7⟩
end
section
variable {S:dr}{h0:Hp}{σ0:Sg}{n i nl nw:Nat}{x x':io}{L L':pj}{Q Q':List Rc}{t t' u:bq}{a a':bi}{G:Gs}{T T' sv:Int}{l l':List bq}{m:fE}{ρ:z6}{an:eW}{P:List gC}
theorem QP.sub (H:QP h0 σ0 Q P){P' D:List gC}(e:P.Perm (P'++D)):QP h0 σ0 Q P':=by
 have h2:=H.perm e
 refine⟨h2.q,fun g hg=>h2.p g (List.mem_append_left _ hg),?_,h2.hd⟩
 have:=h2.nd
 rw [List.map_append,List.nodup_append] at this
 exact this.1
structure zY (i:Nat)(t':bq)(l l':List bq):Prop where
 at_:∀(j:Nat) (u':bq),l'[j]? = some u'→(j=i∧u'=t')∨(j≠i∧∃u,l[j]? = some u∧(u'=u∨∃s v,u'=dX u s v))
 len:l'.length=l.length
theorem yA {α:Type}{f:bq→List α}:∀{l l':List bq},l.length=l'.length→(∀(j:Nat)(u u':bq),l[j]? = some u→l'[j]? = some u'→f u'=f u)→l'.flatMap f=l.flatMap f
 | [],[],_,_=>rfl
 | u::l,u'::l',hl,h=>by
  rw [List.flatMap_cons,List.flatMap_cons,h 0 u u' rfl rfl,yA (l:=l) (l':=l') (by simpa using hl) fun j v v' h1 h2=>h (j+1) v v' (by simpa using h1) (by simpa using h2)]
 | [],u'::l',hl,_=>by simp at hl
 | u::l,[],hl,_=>by simp at hl
theorem zL {α:Type}{f:bq→List α}{t t':bq}:∀{l:List bq}{i:Nat},l[i]? = some t→∃A B,l.flatMap f=A++f t++B∧(l.set i t').flatMap f=A++f t'++B
 | [],_,h=>by cases h
 | a::l,0,h=>by cases h;exact⟨[],l.flatMap f,by simp,by simp⟩
 | a::l,i+1,h=>by
  obtain⟨A,B,e1,e2⟩:=zL (f:=f) (t':=t') (l:=l) (i:=i) (by simpa using h)
  exact⟨f a++A,B,by simp [e1],by simp [e2]⟩
theorem SI.nd (h:SI S h0 σ0 n x L Q)(ht:x.thr[i]? = some t):((eM t).map (·.place)).Nodup:=by
 obtain⟨A,B,e,_⟩:=zL (f:=eM) (t':=t) ht
 have:=h.qp.nd
 rw [e,List.map_append,List.map_append,List.nodup_append,List.nodup_append] at this
 exact this.1.2.1
theorem DE (h:((eM t).map (·.place)).Nodup)(hw:KN t=false):(t.rests.map (·.place)).Nodup:=by
 have e:eM t=t.limbo++t.rests:=by unfold eM;rw [hw];rfl
 rw [e,List.map_append,List.nodup_append] at h
 exact h.2.1
theorem Bt (hP:Bb l T sv u)(hnd:((eM u).map (·.place)).Nodup){s v:Int}:Bb l T sv (dX u s v)∧eM (dX u s v)=eM u∧∀τ,yp u τ→yp (dX u s v) τ:=by
 by_cases hw:KN u=false
 ·exact TI hP (DE hnd hw)
 ·
  have h1:u.state=1:=by
   refine Classical.byContradiction fun h1=>hw ?_
   unfold KN
   cases u.now with
   | none=>rfl
   | some b=>simp [h1]
  unfold dX
  cases hn:u.now with
  | none=>exact⟨hP,rfl,fun _ g=>g⟩
  | some a =>
   simp only
   split
   ·rw [if_neg (by omega)]
    split
    ·refine⟨⟨hP.jobs,fun g b hb=>hP.att g b (by rw [hn];exact hb),hP.le,hP.look,hP.sw,fun g b hb=>hP.slot g b (by rw [hn];exact hb),hP.off⟩,?_,fun τ g h1 b hb=>g h1 b (by rw [hn];exact hb)⟩
     unfold eM KN U5
     rw [hn]
    ·exact⟨hP,rfl,fun _ g=>g⟩
   ·exact⟨hP,rfl,fun _ g=>g⟩
theorem SI.asm (h:SI S h0 σ0 n x L Q)(hM:MI S h0 n x L)(ht:x.thr[i]? = some t)(hat:zY i t' x.thr x'.thr)(hT:x.mem.n≤x'.mem.n)(hs:∀j,j≠i→x'.mem.s.getD j 0=x.mem.s.getD j 0)
  (hBg:∀τ,τ≤x.mem.n→yp t τ→yp t' τ) {l0:List bq} (hl0:∀(j:Nat) (u:bq),x.thr[j]? = some u→j≠i→l0[j]? = some u) (hli:∃w,l0[i]? = some w∧∀τ,τ≤x.mem.n→yp w τ→yp t' τ)
  (hP:Bb l0 x.mem.n (x'.mem.s.getD i 0) t') (hQ:QP h0 σ0 Q' (x'.thr.flatMap eM)) (hlg:Q'.map (·.lg)=L') (hback:∀y∈Q',∃a∈jN x',a.wrote=true∧y.stamp=a.stamp∧y.cells=a.cells∧y.ks=a.reads)
  (hgv:∀D∈Q',∀g∈D.gs,D∈Q∨(g.stamp≤x.mem.n∧∀u∈x.thr,yp u g.stamp)):SI S h0 σ0 n x' L' Q':=by
 have hwk:∀j u,x.thr[j]? = some u→∀s v,Bb x.thr x.mem.n (x.mem.s.getD j 0) (dX u s v)∧eM (dX u s v)=eM u∧∀τ,yp u τ→yp (dX u s v) τ:=fun j u hu s v=>Bt (h.thr j u hu) (h.nd hu)
 have hbt:∀(j:Nat) (u':bq),x'.thr[j]? = some u'→∃w,x.thr[j]? = some w∧∀τ,τ≤x.mem.n→yp w τ→yp u' τ:=fun j u' hu'=>by
  rcases hat.at_ j u' hu' with ⟨rfl,rfl⟩ | ⟨hj,u,hu,rfl | ⟨s,v,rfl⟩⟩
  ·exact⟨t,ht,hBg⟩
  ·exact⟨_,hu,fun _ _ g=>g⟩
  ·exact⟨u,hu,fun τ _ g=>(hwk j u hu s v).2.2 τ g⟩
 refine⟨hQ,hlg,hback,fun D hD g hg u' hu'=>?_,fun j u' hu'=>?_,h.th⟩
 ·obtain⟨j,hj⟩:=List.getElem?_of_mem hu'
  obtain⟨w,hw,hbw⟩:=hbt j u' hj
  rcases hgv D hD g hg with hD | ⟨h1,h2⟩
  ·refine hbw _ ?_ (h.gv D hD g hg w (List.mem_of_getElem? hw))
   have h1:=(h.qp.q.gs D hD g hg).1
   have h2:=(hM.g.logT D.lg (by show D.lg∈L;rw [←h.lg];exact List.mem_map.2 ⟨D,hD,rfl⟩)).2
   have h3:D.stamp≤x.mem.n:=h2
   omega
  ·exact hbw _ h1 (h2 w (List.mem_of_getElem? hw))
 ·rcases hat.at_ j u' hu' with ⟨rfl,rfl⟩ | ⟨hj,u,hu,e⟩
  ·refine hP.conv hT fun k w' hw'=>?_
   by_cases hk:k=j
   ·subst hk
    obtain⟨w,h1,h2⟩:=hli
    rcases hat.at_ k w' hw' with ⟨_,rfl⟩ | ⟨g,_⟩
    ·exact⟨w,h1,h2⟩
    ·exact absurd rfl g
   ·obtain⟨w,h1,h2⟩:=hbt k w' hw'
    exact⟨w,hl0 k w h1 hk,h2⟩
  ·rw [hs j hj]
   rcases e with rfl | ⟨s,v,rfl⟩
   ·exact(h.thr j _ hu).conv hT hbt
   ·exact(hwk j u hu s v).1.conv hT hbt
theorem HJ (hM:MI S h0 n x L)(hat:zY i t' x.thr x'.thr)(hi:i<x.thr.length)(hk:∀b∈dh t,b.wrote=true→∃c∈dh t',c.wrote=true∧c.stamp=b.stamp∧c.cells=b.cells∧c.reads=b.reads)(ht:x.thr[i]? = some t):∀b∈jN x,b.wrote=true→∃c∈jN x',c.wrote=true∧c.stamp=b.stamp∧c.cells=b.cells∧c.reads=b.reads:=by
 intro b hb hw
 obtain⟨u,hu,hbu⟩:=List.mem_flatMap.1 hb
 obtain⟨j,hj⟩:=List.getElem?_of_mem hu
 have hjl:=(List.getElem?_eq_some_iff.1 hj).1
 have hj':j<x'.thr.length:=by rw [hat.len];exact hjl
 have hu':=List.getElem?_eq_getElem hj'
 rcases hat.at_ j _ hu' with ⟨e1,e2⟩ | ⟨hji,w,hw2,e2⟩
 ·subst e1
  rw [ht] at hj;cases hj
  obtain⟨c,hc,h2⟩:=hk b hbu hw
  exact⟨c,List.mem_flatMap.2 ⟨t',by rw [←e2];exact List.getElem_mem hj',hc⟩,h2⟩
 ·rw [hj] at hw2;cases hw2
  refine⟨b,List.mem_flatMap.2 ⟨x'.thr[j],List.getElem_mem hj',?_⟩,hw,rfl,rfl,rfl⟩
  rcases e2 with e | ⟨s,v,e⟩
  ·rw [e];exact hbu
  ·rw [e,(MS hM.set (hM.thr j u hj)).2.1];exact hbu
theorem SI.quiet (h:SI S h0 σ0 n x L Q)(hM:MI S h0 n x L)(ht:x.thr[i]? = some t)(hat:zY i t' x.thr x'.thr)(hT:x.mem.n≤x'.mem.n)(hs:∀j,j≠i→x'.mem.s.getD j 0=x.mem.s.getD j 0)(hsi:x'.mem.s.getD i 0=0)
  (hN:C1 (x.thr.set i { t with state:=6 }) x.mem.n t.jobs (eM t) t') (hle:∀g∈eM t,1≤g.stamp∧g.stamp≤x.mem.n)
  (hk:∀b∈dh t,b.wrote=true→∃c∈dh t',c.wrote=true∧c.stamp=b.stamp∧c.cells=b.cells∧c.reads=b.reads):SI S h0 σ0 n x' L Q:=by
 have hi:=(List.getElem?_eq_some_iff.1 ht).1
 have hpf:x'.thr.flatMap eM=(x.thr.set i t').flatMap eM:=yA (by rw [List.length_set,hat.len]) fun j u u' h1 h2=>by
  rcases hat.at_ j u' h2 with ⟨e1,e2⟩ | ⟨hj,w,hw,e⟩
  ·subst e1;rw [List.getElem?_set_self hi] at h1;cases h1;rw [e2]
  ·rw [List.getElem?_set_ne (Ne.symm hj),hw] at h1;cases h1
   rcases e with rfl | ⟨s,v,rfl⟩
   ·rfl
   ·exact(Bt (h.thr j u hw) (h.nd hw)).2.1
 obtain⟨A,B,e1,e2⟩:=zL (f:=eM) (t':=t') ht
 obtain⟨D,hD⟩:=hN.pend
 refine h.asm hM ht hat hT hs (fun τ _ _=>hN.fresh.bg) (l0:=x.thr.set i { t with state:=6 }) (fun j u hu hj=>by rw [List.getElem?_set_ne (Ne.symm hj)];exact hu) ⟨_,List.getElem?_set_self hi,fun τ _ _=>hN.fresh.bg⟩ (by rw [hsi];exact hN.thrP (h.thr i t ht).jobs hle) ?_ h.lg (fun y hy=>?_) fun D hD g hg=>.inl hD
 ·refine h.qp.sub (D:=D) ?_
  rw [hpf,e1,e2,hN.fresh.pend]
  have h1:(A++eM t++B).Perm (A++(t'.limbo++t'.rests++D)++B):=((hD.append_left A).append_right B)
  refine h1.trans ?_
  simp only [List.append_assoc]
  refine List.Perm.append_left A (List.Perm.append_left _ (List.Perm.append_left _ ?_))
  exact List.perm_append_comm
 ·obtain⟨b,hb,b1,b2,b3,b4⟩:=h.back y hy
  obtain⟨c,hc,c1,c2,c3,c4⟩:=HJ hM hat hi hk ht b hb b1
  exact⟨c,hc,c1,by rw [c2];exact b2,by rw [c3];exact b3,by rw [c4];exact b4⟩
end
section
variable {S:dr}{h0:Hp}{σ0:Sg}{n i nl nw:Nat}{x x':io}{L L':pj}{Q Q':List Rc}{t t' u:bq}{a a':bi}{G:Gs}{m m':fE}{ρ:z6}{an:eW}{P:List gC}{X:Nat→Hx}{T sv:Int}{l:List bq}
theorem jy:(dy t).past=t.past:=by unfold dy;split <;> rfl
theorem G6:(kD t).past=t.past:=by
 unfold kD
 split
 ·rfl
 ·split
  ·exact jy
  ·exact jy
theorem D4 {d:Int}:(ku t d).past=t.past:=by
 show (if lQ t.conf d=0 then _ else _:bq).past=_
 split
 ·exact jy
 ·rfl
theorem LS {d p:Int}{sl:ByteArray}:(gO t a d p sl).past=t.past++[eP a t.born p]:=by
 unfold gO
 split
 ·split
  ·rfl
  ·exact D4
 ·split
  ·split
   ·exact jy
   ·rfl
  ·split
   ·unfold sE
    split
    ·exact jy
    ·exact jy
   ·unfold sQ
    split
    ·exact jy
    ·exact G6
theorem Gv (h:∀b∈t.past,b∈t'.past)(h1:t.state≠1):∀b∈dh t,b.wrote=true→∃c∈dh t',c.wrote=true∧c.stamp=b.stamp∧c.cells=b.cells∧c.reads=b.reads:=fun b hb hw=>by
 have e:dh t=t.past:=by unfold dh;rw [if_neg h1];simp
 rw [e] at hb
 exact⟨b,List.mem_append_left _ (h b hb),hw,rfl,rfl,rfl⟩
theorem jH (h1:t.state≠1):KN t=false∧eM t=t.limbo++t.rests:=by
 have:KN t=false:=by
  unfold KN
  cases t.now with
  | none=>rfl
  | some b=>simp [h1]
 exact⟨this,by unfold eM;rw [this];rfl⟩
theorem D5 (h:Bb l T sv t):t.sweep=true→∀g∈t.rests,∀u∈l.set i { t with state:=6 },yp u g.stamp:=fun hs g hg u hu=>by
 rcases List.mem_or_eq_of_mem_set hu with hu | rfl
 ·exact h.sw hs g hg u hu
 ·exact fun g=>absurd g (show ¬(6:Int)=1 by decide)
theorem DZ {draw:Int}{sl:ByteArray}(ht:x.thr[i]? = some t):zY i (thrTell ρ t (ay x.mem (az t).1).2 draw (x.picks+1) sl) x.thr (fN ρ x i t draw sl).thr:=by
 have hi:=(List.getElem?_eq_some_iff.1 ht).1
 unfold fN
 generalize thrTell ρ t (ay x.mem (az t).1).2 draw (x.picks+1) sl=t'
 have hset:∀j u,(x.thr.set i t')[j]? = some u→(j=i∧u=t')∨(j≠i∧x.thr[j]? = some u):=fun j u hu=>by
  by_cases c:j=i
  ·subst c;rw [List.getElem?_set_self hi] at hu;cases hu;exact .inl ⟨rfl,rfl⟩
  ·rw [List.getElem?_set_ne (fun e=>c e.symm)] at hu;exact .inr ⟨c,hu⟩
 refine⟨fun j u' hj=>?_,?_⟩
 ·simp only at hj
  split at hj
  ·rw [DT,Option.map_eq_some_iff] at hj
   obtain⟨u,hu,rfl⟩:=hj
   rcases hset j u hu with ⟨c,e⟩ | ⟨c,e⟩
   ·exact .inl ⟨c,by rw [if_neg (fun g=>g.2 c)];exact e⟩
   ·refine .inr ⟨c,u,e,?_⟩
    split
    ·exact .inr ⟨_,_,rfl⟩
    ·exact .inl rfl
  ·rcases hset j u' hj with ⟨c,e⟩ | ⟨c,e⟩
   ·exact .inl ⟨c,e⟩
   ·exact .inr ⟨c,u',e,.inl rfl⟩
 ·simp only
  split
  ·unfold iL;simp
  ·simp
theorem SI.le (h:SI S h0 σ0 n x L Q)(ht:x.thr[i]? = some t)(h1:t.state≠1):∀g∈eM t,1≤g.stamp∧g.stamp≤x.mem.n:=by
 rw [(jH h1).2];exact(h.thr i t ht).le
theorem SI.rest (h:SI S h0 σ0 n x L Q)(hM:MI S h0 n x L)(ht:x.thr[i]? = some t):SI S h0 σ0 n (jJ x i t) L Q:=by
 have hi:=(List.getElem?_eq_some_iff.1 ht).1
 have hat:zY i (eS t) x.thr (jJ x i t).thr:=⟨fun j u' hu'=>by
  by_cases c:j=i
  ·subst c
   have hu':(x.thr.set j (eS t))[j]? = some u':=hu'
   rw [List.getElem?_set_self hi] at hu';cases hu';exact .inl ⟨rfl,rfl⟩
  ·have hu':(x.thr.set i (eS t))[j]? = some u':=hu'
   rw [List.getElem?_set_ne (fun e=>c e.symm)] at hu'
   exact .inr ⟨c,u',hu',.inl rfl⟩,by show (x.thr.set i _).length=_;simp⟩
 by_cases c3:t.state=3
 ·have h1:t.state≠1:=by omega
  have hT:=h.thr i t ht
  have hnd:=DE (h.nd ht) (jH h1).1
  have hsv:=hT.off h1
  refine h.quiet hM ht hat (Int.le_refl _) (fun _ _=>rfl) hsv ?_ (h.le ht h1) (Gv (fun b hb=>?_) h1)
  ·unfold eS
   rw [if_pos c3]
   split
   ·exact nj (t:={ t with pauses:=0 }) hT.jobs hnd (D5 hT) ⟨[],by rw [(jH h1).2,List.append_nil]⟩
   ·exact⟨.of h1,rfl,⟨[],by rw [(jH h1).2,List.append_nil]⟩,fun g=>by(have g:t.state=5:=g;omega),D5 hT⟩
  ·unfold eS
   rw [if_pos c3]
   split
   ·rw [jy];exact hb
   ·exact hb
 ·have e:eS t=t:=by unfold eS;rw [if_neg c3]
  have e2:(jJ x i t).thr=x.thr:=by
   show x.thr.set i (eS t)=x.thr
   rw [e]
   apply List.ext_getElem?
   intro j
   by_cases c:j=i
   ·subst c;rw [List.getElem?_set_self hi,ht]
   ·rw [List.getElem?_set_ne (fun g=>c g.symm)]
  refine⟨by rw [e2];exact h.qp,h.lg,?_,by rw [e2];exact h.gv,fun j u hu=>?_,h.th⟩
  ·have:jN (jJ x i t)=jN x:=by unfold jN;rw [e2]
   rw [this];exact h.back
  ·rw [e2] at hu ⊢
   exact h.thr j u hu
theorem SI.idle (h:SI S h0 σ0 n x L Q)(hM:MI S h0 n x L)(ht:x.thr[i]? = some t)(h1:t.state≠1)(hgo:(az t).2=true){draw:Int}{sl:ByteArray}(hT':x.mem.n≤(fN ρ x i t draw sl).mem.n):SI S h0 σ0 n (fN ρ x i t draw sl) L Q:=by
 have hi:=(List.getElem?_eq_some_iff.1 ht).1
 have hT:=h.thr i t ht
 have hI:=hM.thr i t ht
 have hnd:=DE (h.nd ht) (jH h1).1
 have hlen:x.thr.length=n:=hM.len
 have hin:i<n:=by omega
 have hk:(az t).1.kind=8:=by
  unfold az at hgo ⊢
  rw [if_neg h1] at hgo ⊢
  split
  ·rfl
  ·rename_i g2
   rw [if_neg g2] at hgo
   split
   ·rfl
   ·rename_i g5;rw [if_neg g5] at hgo;cases hgo
 have hs:(ay x.mem (az t).1).1.s=x.mem.s:=P5 (by rw [hk];decide)
 refine h.quiet hM ht (DZ ht) hT' (fun j _=>by show (ay x.mem (az t).1).1.s.getD j 0=_;rw [hs]) (by show (ay x.mem (az t).1).1.s.getD i 0=0;rw [hs];exact hT.off h1) ?_ (h.le ht h1) (Gv (fun b hb=>?_) h1)
 ·by_cases c2:t.state=2
  ·have et:∀an d p,thrTell ρ t an d p sl=nT t an d:=fun an d p=>by unfold thrTell;rw [if_neg h1,if_pos c2]
   rw [et]
   generalize (ay x.mem (az t).1).2=an
   show C1 _ _ _ _ (if an.err=0∧an.word≠0∧(t.yld=false∨an.word=t.since) then _ else _)
   split
   ·exact⟨.of h1,rfl,⟨[],by rw [(jH h1).2,List.append_nil]⟩,fun g=>by(have g:t.state=5:=g;omega),D5 hT⟩
   ·exact D9 hT.jobs hnd (D5 hT) ⟨[],by rw [(jH h1).2,List.append_nil]⟩
  ·by_cases c5:t.state=5
   ·have et:∀an d p,thrTell ρ t an d p sl=lq t (if an.err=0 then an.word else 0):=fun an d p=>by unfold thrTell;rw [if_neg h1,if_neg c2,if_pos c5]
    have en:(az t).1=⟨8,t.slots.length,0,0,ae,ae⟩:=by unfold az;rw [if_neg h1,if_neg c2,if_pos c5]
    obtain⟨sl1,sl2⟩:=hI.sl c5
    have hr:=hI.b.sw sl2
    have hth:=h.th
    have hmsl:=hM.sl
    rw [et,en]
    have hmd:(ay x.mem ⟨8,t.slots.length,0,0,ae,ae⟩).2=⟨x.mem.s.getD t.slots.length 0,ae,false,0⟩:=by
     have:i4 (t.slots.length:Int) x.mem.s.length=true:=by unfold i4;simp;omega
     unfold ay bz
     simp [this]
    rw [hmd]
    unfold lq
    have hlnd:(t.limbo.map (·.place)).Nodup:=by
     have:=h.nd ht
     rw [(jH h1).2,List.map_append,List.nodup_append] at this
     exact this.1
    have hset:∀(j:Nat) (u:bq),(x.thr.set i { t with state:=6 })[j]? = some u→(∀τ,yp u τ)∨(j≠i∧x.thr[j]? = some u):=fun j u hu=>by
     by_cases c:j=i
     ·subst c;rw [List.getElem?_set_self hi] at hu;cases hu
      exact .inl fun τ g=>absurd g (show ¬(6:Int)=1 by decide)
     ·rw [List.getElem?_set_ne (fun e=>c e.symm)] at hu;exact .inr ⟨c,hu⟩
    refine Gr (t:={ t with slots:=t.slots++[if (0:Int)=0 then x.mem.s.getD t.slots.length 0 else 0] }) c5 sl2 hr hT.jobs hlnd (fun j s u h2 h3 g hg h4=>?_) (fun u h2 e τ=>?_) ?_ ⟨[],by rw [(jH h1).2,hr]⟩
    ·rcases hset j u h3 with hb | ⟨_,hu⟩
     ·exact hb _
     ·have h2:(t.slots++[x.mem.s.getD t.slots.length 0])[j]? = some s:=by simpa using h2
      rw [List.getElem?_append] at h2
      split at h2
      ·exact hT.look c5 j s u h2 hu g hg h4
      ·rename_i hjl
       have hj0:j=t.slots.length:=by
        have:=(List.getElem?_eq_some_iff.1 h2).1
        simp only [List.length_singleton] at this
        omega
       subst hj0
       simp only [Nat.sub_self,List.getElem?_cons_zero,Option.some.injEq] at h2
       intro hu1 b hb hbg
       have hU:=h.thr _ u hu
       obtain⟨q0,q1,q2,q3⟩:=hU.slot hu1 b hb
       have hg1:=(hT.le g (List.mem_append_left _ hg)).1
       obtain⟨b2,hb2,hA,_⟩:=(hM.thr _ u hu).run hu1
       rw [hb] at hb2;cases hb2
       have hst:2≤b.state:=by have:=hA.begun;rw [hbg] at this;simpa using this.symm
       have hbeg:=hA.beg hst
       by_cases c:b.state=2
       ·have:=q1 (.inr c);omega
       ·have:=q2 (by omega);omega
    ·rcases hset _ u h2 with hb | ⟨hj,hu⟩
     ·exact hb τ
     ·exfalso
      have e:((t.slots++[_]).length:Int)=t.me:=e
      have:=hI.b.me
      simp only [List.length_append,List.length_singleton] at hj e
      omega
    ·show ((x.thr.set i _).length:Int)≤t.s.threads
     rw [List.length_set,hI.b.s]
     omega
   ·exfalso
    unfold az at hk
    rw [if_neg h1,if_neg c2,if_neg c5] at hk
    simp [oQ] at hk
 ·by_cases c2:t.state=2
  ·have et:∀an d p,thrTell ρ t an d p sl=nT t an d:=fun an d p=>by unfold thrTell;rw [if_neg h1,if_pos c2]
   rw [et]
   generalize (ay x.mem (az t).1).2=an
   show b∈(if an.err=0∧an.word≠0∧(t.yld=false∨an.word=t.since) then _ else _:bq).past
   split
   ·exact hb
   ·rw [D4];exact hb
  ·by_cases c5:t.state=5
   ·have et:∀an d p,thrTell ρ t an d p sl=lq t (if an.err=0 then an.word else 0):=fun an d p=>by unfold thrTell;rw [if_neg h1,if_neg c2,if_pos c5]
    rw [et]
    unfold lq
    rw [G6];exact hb
   ·unfold thrTell
    rw [if_neg h1,if_neg c2,if_neg c5];exact hb
end
end Go.Proofs.YtoealglbimbbmaaGreatDoor.S
namespace Go.Proofs.YtoealglbimbbmaaGreatDoor.S
open Go Go.Proofs
set_option linter.unusedVariables false
set_option linter.unusedSimpArgs false
section
variable {S:dr}{h0:Hp}{σ0:Sg}{n i nl nw:Nat}{x x':io}{L L':pj}{Q Q':List Rc}{t t' u:bq}{a a':bi}{G:Gs}{m m':fE}{ρ:z6}{an:eW}{P:List gC}
theorem Qn {q:bi×Int×Int}:(jr q).state≠8:=by
 unfold jr;repeat' split
 all_goals simp
theorem Tx {q:bi×Int×Int}(h:q.1.inn.wr=false):(jr q).inn.wr=false:=by
 unfold jr;repeat' split
 all_goals first | exact h | rfl
theorem MA (h:a.inn.wr=false):(fh ρ a).inn.wr=false:=by
 unfold fh
 refine Tx ?_
 unfold fy
 cases a.run <;> exact h
theorem KS (y:bi):(fM y).state=y.state∧(fM y).inn=y.inn∧(fM y).blocks=y.blocks:=by
 show (if y.wr=true then { y with stamp:=y.inn.stamp } else y:bi).state=y.state∧(if y.wr=true then { y with stamp:=y.inn.stamp } else y:bi).inn=y.inn∧(if y.wr=true then { y with stamp:=y.inn.stamp } else y:bi).blocks=y.blocks
 split <;> exact⟨rfl,rfl,rfl⟩
theorem PN:(fh ρ a).blocks=a.blocks:=by
 unfold fh
 rw [(SV (q:=fy ρ a)).2.1]
 unfold fy
 cases a.run <;> rfl
theorem Oh {f:fj}:(cy ρ a f).blocks=a.blocks:=by
 unfold cy
 repeat' split
 all_goals first | rfl | exact PN
theorem LI {f:fj}:(cy ρ a f).state≠8:=by
 unfold cy
 repeat' split
 all_goals first | exact Qn | simp
theorem KZ {f:fj}(h:a.inn.wr=false):(cy ρ a f).inn.wr=false:=by
 unfold cy
 repeat' split
 all_goals first | exact h | exact MA h | rfl
theorem v7:(ao ρ a an).blocks=a.blocks:=by
 unfold ao
 split
 ·rfl
 split
 ·rfl
 split
 ·rfl
 split
 ·exact PN
 split
 ·rfl
 unfold dN
 rw [(KS _).2.2]
 split
 ·rfl
 split
 ·rfl
 cases a.inn with
 | none=>rfl
 | fetch f=>exact Oh
 | ext e =>
  show (if a.state=4 then qt { { a with inn:=.ext (dS e an) } with stamp:=(dS e an).stamp } a.v.need else fi { { a with inn:=.ext (dS e an) } with stamp:=(dS e an).stamp } 3 0 (-1):bi).blocks=a.blocks
  split <;> rfl
 | com c=>rfl
theorem RA (h6:a.state≤6):(ao ρ a an).state≠8:=by
 have e1:¬a.state=8:=by omega
 unfold ao
 rw [if_neg e1]
 split
 ·show ¬(1:Int)=8;decide
 split
 ·show ¬(2:Int)=8;decide
 split
 ·exact Qn
 rw [if_neg (by omega)]
 unfold dN
 rw [(KS _).1]
 split
 ·exact e1
 split
 ·show ¬(7:Int)=8;decide
 cases a.inn with
 | none=>exact e1
 | fetch f=>exact LI
 | ext e =>
  show (if a.state=4 then qt { { a with inn:=.ext (dS e an) } with stamp:=(dS e an).stamp } a.v.need else fi { { a with inn:=.ext (dS e an) } with stamp:=(dS e an).stamp } 3 0 (-1):bi).state≠8
  split
  ·show ¬(3:Int)=8;decide
  ·show ¬(7:Int)=8;decide
 | com c=>show ¬(7:Int)=8;decide
theorem RO (h:(a.state=2∧a.inn=.none)∨(a.state=3∧∃f,a.inn=.fetch f)):(ao ρ a an).inn.wr=false:=by
 unfold ao
 rcases h with ⟨s,e⟩ | ⟨s,f,e⟩
 ·rw [if_neg (by omega),if_neg (by omega),if_neg (by omega),if_pos s]
  exact MA (by rw [e])
 ·rw [if_neg (by omega),if_neg (by omega),if_neg (by omega),if_neg (by omega),if_neg (by omega)]
  unfold dN
  rw [(KS _).2.1,e]
  split
  ·rfl
  split
  ·rfl
  ·exact KZ (a:={ a with inn:=.fetch (df f an) }) rfl
theorem Qy {y:rG}(h:y.wr=true):y.isCom=true:=by
 cases y with
 | com c=>rfl
 | _=>cases h
structure Wk (S:dr)(h0:Hp)(σ0:Sg)(n:Nat)(ρ:z6)(x:io)(L L':pj)(Q:List Rc)(i:Nat)(t:bq)(a a':bi)(m':fE):Prop where
 si:SI S h0 σ0 n x L Q
 mi:MI S h0 n x L
 at_:x.thr[i]? = some t
 st:t.state=1
 now:t.now=some a
 h8:a.state≠8
 inv:iN S h0 n (dI x.mem L (zq x.thr)) x.mem.l.length x.mem.w.length i a
 r:nG S h0 n x.mem L (zq x.thr) i a a' m' L'
 hr:cx ρ
 s1:∀j,j≠i→m'.s.getD j 0=x.mem.s.getD j 0
 s2:a.state≠7→(a'.state=0→m'.s.getD i 0=0)∧(a'.state=1∨a'.state=2→m'.s.getD i 0=1)∧(3≤a'.state→m'.s.getD i 0=a'.beg+1)∧(a'.state=2→a'.stamp=a'.beg)
 s3:a.state=7→m'.s.getD i 0=0
variable {draw pick bn:Int}{sl:ByteArray}
theorem wn (h1:t.state=1)(hn:t.now=some a):dh t=t.past++(if a.begun=true then [eP a t.born 0] else []):=by
 show t.past++(if t.state=1 then (match t.now with | some a=>if a.begun=true then [eP a t.born 0] else [] | none=>[]) else [])=_
 rw [if_pos h1,hn]
theorem wM (h1:t.state=1)(hn:t.now=some a):eM t=t.limbo++(if a.inn.wr=true then (if t.sweep=true then [] else a.fs.map fun n=>⟨n,a.stamp⟩) else t.rests):=by
 unfold eM KN U5
 rw [hn]
 simp [h1]
theorem Wk.ended (h:Wk S h0 σ0 n ρ x L L' Q i t a a' m')(h7:a.state=7)(ea:a'={ a with state:=8 })(hm:x'.mem=m')(hat:zY i (gO { t with now:=some a',born:=bn } a' draw pick sl) x.thr x'.thr):L'=L∧SI S h0 σ0 n x' L Q:=by
 have hi:=(List.getElem?_eq_some_iff.1 h.at_).1
 have hT:=h.si.thr i t h.at_
 have hI:=h.mi.thr i t h.at_
 obtain⟨hP,hP2,hP3⟩:=hT.att h.st a h.now
 have hA:=h.inv
 have hA':=h.r.inv
 have ewr:a'.inn.wr=a.inn.wr:=by rw [ea]
 have eL:L'=L:=by
  rcases h.r.log with ⟨g,_⟩ | ⟨_,g1,g2,_⟩
  ·exact g
  ·rw [ewr,g1] at g2;cases g2
 have hth:=h.si.th
 have hlen:=h.mi.len
 have hPA:kg a':=by
  rw [ea]
  exact⟨fun _ g=>absurd g (show ¬(8:Int)≤4 by decide),fun _ g=>absurd g (show ¬(8:Int)≤4 by decide),fun g=>(by rcases g with g | g <;> exact absurd g (show ¬(8:Int)=_ by decide)),hP.com,hP.dn,hP.blk,hP.nd,hP.giv⟩
 have efs:a'.fs=a.fs:=by rw [ea];rfl
 have est:a'.stamp=a.stamp:=by rw [ea]
 have hb:a.begun=true:=by rw [hA.begun,h7];rfl
 have e78:7≤a'.state:=by rw [ea];show (7:Int)≤8;decide
 refine⟨eL,h.si.quiet h.mi h.at_ hat (by rw [hm];exact h.r.to.T) (fun j hj=>by rw [hm];exact h.s1 j hj) (by rw [hm];exact h.s3 h7) ?_ ?_ ?_⟩
 ·refine K3 (x:={ t with now:=some a',born:=bn }) (P:=eM t) hT.jobs (by rw [ea]) hPA (by rw [h.r.isr];exact hP2) ⟨(hA'.out e78).1,(hA'.out e78).2.1⟩ (fun g1 g2=>?_) ?_ (h.si.nd h.at_) hI.b.sw (D5 hT) (fun u hu hme τ=>?_) ?_
  ·have hcc:=(hA'.out e78).2.2.1 g2 g1
   cases hin:a'.inn with
   | com c =>
    obtain⟨hC,_,hcells,_⟩:=hA'.isc c hin
    exact absurd (by rw [hcells];exact hcc) hC.nec
   | _=>rfl
  ·rw [wM h.st h.now,ewr,efs,est]
  ·have hme:t.me=0:=hme
   have:=hI.b.me
   have hi0:i=0:=by omega
   subst hi0
   rw [List.getElem?_set_self hi] at hu;cases hu
   exact fun g=>absurd g (show ¬(6:Int)=1 by decide)
  ·show ((x.thr.set i _).length:Int)≤t.s.threads
   rw [List.length_set,hI.b.s]
   omega
 ·intro g hg
  rw [wM h.st h.now] at hg
  rcases List.mem_append.1 hg with hg | hg
  ·exact hT.le g (List.mem_append_left _ hg)
  ·split at hg
   ·rename_i w
    have hbeg:=hA.beg (by omega)
    have:=hbeg.2.2.2 w
    have h3:a.stamp≤x.mem.n:=hbeg.2.2.1
    split at hg
    ·cases hg
    ·obtain⟨k,_,rfl⟩:=List.mem_map.1 hg
     exact⟨by show 1≤a.stamp;omega,h3⟩
   ·exact hT.le g (List.mem_append_right _ hg)
 ·intro b hbm hw
  have hpast:=LS (t:={ t with now:=some a',born:=bn }) (a:=a') (d:=draw) (p:=pick) (sl:=sl)
  rw [wn h.st h.now,if_pos hb] at hbm
  rcases List.mem_append.1 hbm with g | g
  ·exact⟨b,List.mem_append_left _ (by rw [hpast];exact List.mem_append_left _ g),hw,rfl,rfl,rfl⟩
  ·rw [List.mem_singleton] at g
   subst g
   have hw2:a.inn.wr=true:=by rw [←hA.wrote];exact hw
   refine⟨eP a' bn pick,List.mem_append_left _ (by rw [hpast];exact List.mem_append_right _ List.mem_cons_self),?_,?_,?_,?_⟩
   ·rw [hA'.wrote,ewr];exact hw2
   ·show a'.stamp=a.stamp;exact est
   ·rw [hA'.cells (by rw [ewr];exact hw2),hA.cells hw2,ea]
   ·show a'.v.k=a.v.k;rw [ea]
theorem Wk.attP (h:Wk S h0 σ0 n ρ x L L' Q i t a (ao ρ a an) m')(h7:a.state≠7):kg (ao ρ a an):=by
 have hT:=h.si.thr i t h.at_
 obtain⟨hP,hP2,hP3⟩:=hT.att h.st a h.now
 have hA:=h.inv
 have hA':=h.r.inv
 have hst:=hA.st
 have h8:=h.h8
 have eb:=v7 (ρ:=ρ) (a:=a) (an:=an)
 refine hP.tell h.hr (fun g=>(hA.run g).1) hA.fin0 (fun g=>(hA.fresh g).1) (fun g=>(by obtain⟨_,f,e,_⟩:=hA.fet g;exact⟨f,e⟩)) (fun g=>(by obtain⟨_,e,e2,_⟩:=hA.ext g;exact⟨e,e2⟩)) (fun g=>(by obtain⟨c,e,_⟩:=hA.com g;exact⟨c,e⟩)) hst fun g=>?_
 have hw:a.inn.wr=false:=by
  rcases g with g | g
  ·rw [(hA.fresh (by omega)).1]
  ·obtain⟨_,f,e,_⟩:=hA.fet g
   rw [e]
 have hw':(ao ρ a an).inn.wr=false:=RO (by
  rcases g with g | g
  ·exact .inl ⟨g,(hA.fresh (by omega)).1⟩
  ·obtain⟨_,f,e,_⟩:=hA.fet g
   exact .inr ⟨g,f,e⟩)
 have eL:L'=L:=by
  rcases h.r.log with ⟨g,_⟩ | ⟨_,_,g2,_⟩
  ·exact g
  ·rw [hw'] at g2;cases g2
 have hb:a.begun=true:=by rw [hA.begun];simp;omega
 obtain⟨hb',ebg⟩:=h.r.beg.1 hb
 have h2':2≤(ao ρ a an).state:=by rw [hA'.begun] at hb';simpa using hb'
 have hbeg':=hA'.beg h2'
 have hall:=hA'.all h2'
 have eat:(ao ρ a an).at_=(ao ρ a an).stamp:=by unfold bi.at_;rw [hw'];rfl
 generalize ao ρ a an=a' at *
 obtain⟨σ,_,_,c1,_,_⟩:=h.si.qp.q.at_ a'.stamp
 refine⟨_,σ,c1.shp h.si.qp.q.st0,fun c hc=>?_,h.si.inR h.at_ h.now hw (fun hs g hg=>?_) c1 ?_⟩
 ·have:=hall.reads c hc
  rw [eat,eL] at this
  rw [h.si.lg]
  exact this
 ·have:=hT.sw hs g hg t (List.mem_of_getElem? h.at_) h.st a h.now hb
  omega
 ·rw [eb]
  by_cases hsw:t.sweep=true
  ·exact .inr ⟨hsw,hP3 hsw⟩
  ·exact .inl (hP.blk (by rw [hP2];simpa using hsw))
theorem Wk.thrP (h:Wk S h0 σ0 n ρ x L L' Q i t a (ao ρ a an) m')(h7:a.state≠7):(∀τ,τ≤x.mem.n→yp t τ→yp { t with now:=some (ao ρ a an),born:=bn } τ)∧Bb x.thr x.mem.n (m'.s.getD i 0) { t with now:=some (ao ρ a an),born:=bn }:=by
 have hT:=h.si.thr i t h.at_
 obtain⟨hP,hP2,hP3⟩:=hT.att h.st a h.now
 have hPA:=h.attP h7
 refine⟨fun τ hτ g _ b hb hbg=>?_,hT.jobs,fun _ b hb=>?_,hT.le,fun g=>?_,hT.sw,fun _ b hb=>?_,fun g=>absurd h.st g⟩
 ·cases hb
  cases hbg0:a.begun with
  | true=>rw [(h.r.beg.1 hbg0).2];exact g h.st a h.now hbg0
  | false=>rw [(h.r.beg.2 hbg0 hbg).1];exact hτ
 ·cases hb
  exact⟨hPA,by rw [h.r.isr];exact hP2,fun g=>by rw [v7];exact hP3 g⟩
 ·have g:t.state=5:=g
  rw [h.st] at g;cases g
 ·cases hb
  exact h.s2 h7
theorem Mw (hat:zY i t' x.thr x'.thr)(hsi:SI S h0 σ0 n x L Q)(hi:i<x.thr.length):x'.thr.flatMap eM=(x.thr.set i t').flatMap eM:=yA (by rw [List.length_set,hat.len]) fun j u u' h1 h2=>by
  rcases hat.at_ j u' h2 with ⟨e1,e2⟩ | ⟨hj,w,hw,e⟩
  ·subst e1;rw [List.getElem?_set_self hi] at h1;cases h1;rw [e2]
  ·rw [List.getElem?_set_ne (Ne.symm hj),hw] at h1;cases h1
   rcases e with rfl | ⟨s,v,rfl⟩
   ·rfl
   ·exact(Bt (hsi.thr j u hw) (hsi.nd hw)).2.1
theorem Wk.quiet (h:Wk S h0 σ0 n ρ x L L' Q i t a (ao ρ a an) m')(h7:a.state≠7)(eL:L'=L)(ew:(ao ρ a an).inn.wr=a.inn.wr)(es:a.inn.wr=true→(ao ρ a an).stamp=a.stamp∧(ao ρ a an).v=a.v)(hm:x'.mem=m')(hat:zY i { t with now:=some (ao ρ a an),born:=bn } x.thr x'.thr):SI S h0 σ0 n x' L Q:=by
 have hi:=(List.getElem?_eq_some_iff.1 h.at_).1
 have hA:=h.inv
 have hA':=h.r.inv
 obtain⟨hBg,hTP⟩:=h.thrP (bn:=bn) h7
 have hisr:=h.r.isr
 have hbg:=h.r.beg.1
 have hTT:=h.r.to.T
 generalize ao ρ a an=a' at *
 have epd:eM { t with now:=some a',born:=bn }=eM t:=by
  rw [wM h.st h.now,wM (t:={ t with now:=some a',born:=bn }) h.st rfl,ew]
  by_cases w:a.inn.wr=true
  ·obtain⟨e1,e2⟩:=es w
   have efs:a'.fs=a.fs:=by
    unfold bi.fs
    cases h1:a'.run <;> cases h2:a.run <;> simp only [h1,h2,Option.isSome_some,Option.isSome_none,reduceCtorEq] at hisr <;> first | rfl | (show a'.v.l.frees=a.v.l.frees;rw [e2])
   rw [efs,e1]
  ·rw [if_neg w,if_neg w]
 obtain⟨A,B,e1,e2⟩:=zL (f:=eM) (t':={ t with now:=some a',born:=bn }) h.at_
 refine h.si.asm h.mi h.at_ hat (by rw [hm];exact hTT) (fun j hj=>by rw [hm];exact h.s1 j hj) hBg (l0:=x.thr) (fun j u hu _=>hu) ⟨t,h.at_,hBg⟩ (by rw [hm];exact hTP) ?_ h.si.lg (fun y hy=>?_) fun D hD g hg=>.inl hD
 ·rw [Mw hat h.si hi,e2,epd,←e1]
  exact h.si.qp
 ·obtain⟨b,hb,b1,b2,b3,b4⟩:=h.si.back y hy
  have hk:∀b∈dh t,b.wrote=true→∃c∈dh { t with now:=some a',born:=bn },c.wrote=true∧c.stamp=b.stamp∧c.cells=b.cells∧c.reads=b.reads:=by
   intro b hbm hw
   rw [wn h.st h.now] at hbm
   rcases List.mem_append.1 hbm with g | g
   ·exact⟨b,List.mem_append_left _ g,hw,rfl,rfl,rfl⟩
   ·split at g
    ·rename_i hb0
     rw [List.mem_singleton] at g
     subst g
     have hw2:a.inn.wr=true:=by rw [←hA.wrote];exact hw
     obtain⟨k1,k2⟩:=es hw2
     refine⟨eP a' bn 0,?_,?_,?_,?_,?_⟩
     ·rw [wn (t:={ t with now:=some a',born:=bn }) h.st rfl,if_pos (hbg hb0).1]
      exact List.mem_append_right _ List.mem_cons_self
     ·rw [hA'.wrote,ew];exact hw2
     ·show a'.stamp=a.stamp;exact k1
     ·rw [hA'.cells (by rw [ew];exact hw2),hA.cells hw2,k2]
     ·show a'.v.k=a.v.k;rw [k2]
    ·cases g
  obtain⟨c,hc,c1,c2,c3,c4⟩:=HJ h.mi hat hi hk h.at_ b hb b1
  exact⟨c,hc,c1,by rw [c2];exact b2,by rw [c3];exact b3,by rw [c4];exact b4⟩
theorem Wk.commit (h:Wk S h0 σ0 n ρ x L L' Q i t a (ao ρ a an) m')(hM':MI S h0 n x' L')(h7:a.state≠7)(eL:L'=rz (ao ρ a an).stamp (ao ρ a an).v.l.cells L)(ew:a.inn.wr=false)(ew':(ao ρ a an).inn.wr=true)(new:∀y∈L,y.1≠(ao ρ a an).stamp)(hb:a.begun=true)(hm:x'.mem=m')(hat:zY i { t with now:=some (ao ρ a an),born:=bn } x.thr x'.thr):∃Q',SI S h0 σ0 n x' L' Q':=by
 have hi:=(List.getElem?_eq_some_iff.1 h.at_).1
 have hT:=h.si.thr i t h.at_
 have hI:=h.mi.thr i t h.at_
 obtain⟨hP,hP2,hP3⟩:=hT.att h.st a h.now
 have hA:=h.inv
 have hA':=h.r.inv
 obtain⟨hBg,hTP⟩:=h.thrP (bn:=bn) h7
 have hPA:=h.attP h7
 have hisr:=h.r.isr
 obtain⟨hb',ebg⟩:=h.r.beg.1 hb
 have eb:=v7 (ρ:=ρ) (a:=a) (an:=an)
 have hTT:=h.r.to.T
 have hdis:=h.r.to.dis.2
 generalize ao ρ a an=a' at *
 have h2':2≤a'.state:=by rw [hA'.begun] at hb';simpa using hb'
 have hbeg':=hA'.beg h2'
 have hgt:=hbeg'.2.2.2 ew'
 have hic:=Qy ew'
 have hcm:=hPA.com hic
 have ebl:a'.blocks=t.rests.map (·.place):=by
  rw [eb]
  cases hsw:t.sweep with
  | true=>exact hP3 hsw
  | false=>rw [hI.b.sw hsw,hP.blk (by rw [hP2,hsw];rfl)];rfl
 have hsr:t.rests≠[]→t.sweep=true:=fun g=>by
  cases hsw:t.sweep with
  | true=>rfl
  | false=>exact absurd (hI.b.sw hsw) g
 have hfr:t.sweep=true→a'.fs=[]:=fun g=>by
  have:a'.run.isSome=false:=by rw [hisr,hP2,g];rfl
  unfold bi.fs
  cases h1:a'.run with
  | none=>rfl
  | some _=>rw [h1] at this;cases this
 have hrb:∀g∈t.rests,g.stamp≤a'.beg:=fun g hg=>by
  rw [ebg]
  exact hT.sw (hsr (List.ne_nil_of_mem hg)) g hg t (List.mem_of_getElem? h.at_) h.st a h.now hb
 have hall:=hA'.all h2'
 have eat:a'.at_=a'.stamp-1:=by unfold bi.at_;rw [ew'];rfl
 have hlog:=h.si.qp.q.log
 let r:Rc:=⟨a'.stamp,a'.v.k,a'.v.l.cells,a'.fs,t.rests⟩
 have hrok:Tj r:=fun hh σ hs hk hg=>by
  have:=hcm hh σ hs hk (by rw [ebl];exact hg)
  have ec:a'.v.l.cells=a'.v.l.r.c:=by unfold jl.cells;rw [this.1];rfl
  show KM hh σ.B σ.R σ.sh a'.fs (t.rests.map (·.place)) a'.v.l.cells
  rw [ec,←ebl]
  exact this.2
 have elg:(yD r Q).map (·.lg)=L':=by rw [Db,h.si.lg,eL]
 have hnew:∀y∈Q,y.stamp≠r.stamp:=fun y hy=>new y.lg (by rw [←h.si.lg];exact List.mem_map.2 ⟨y,hy,rfl⟩)
 have dis:∀y∈Q,r.stamp<y.stamp→∀u∈y.cells,∀v∈r.cells,u.place≠v.place:=fun y hy hlt u hu v hv=>by
  have hyL:y.lg∈L:=by rw [←h.si.lg];exact List.mem_map.2 ⟨y,hy,rfl⟩
  have hrL:(a'.stamp,a'.v.l.cells)∈L':=by rw [eL];exact jC.2 (.inl rfl)
  rcases hdis _ hrL with g | g
  ·exact absurd rfl (new _ g)
  ·exact g y.lg hyL hlt u hu v hv
 have hback:∀y∈yD r Q,∃b∈jN x',b.wrote=true∧y.stamp=b.stamp∧y.cells=b.cells∧y.ks=b.reads:=fun y hy=>by
  have hself:∃u',u'∈x'.thr∧u'={ t with now:=some a',born:=bn }:=by
   have hj':i<x'.thr.length:=by rw [hat.len];exact hi
   rcases hat.at_ i _ (List.getElem?_eq_getElem hj') with ⟨_,e⟩ | ⟨g,_⟩
   ·exact⟨_,List.getElem_mem hj',e⟩
   ·exact absurd rfl g
  rcases fH.1 hy with rfl | hy
  ·obtain⟨u',hu',e⟩:=hself
   refine⟨eP a' bn 0,List.mem_flatMap.2 ⟨u',hu',?_⟩,?_,rfl,?_,rfl⟩
   ·rw [e,wn (t:={ t with now:=some a',born:=bn }) h.st rfl,if_pos hb']
    exact List.mem_append_right _ List.mem_cons_self
   ·rw [hA'.wrote];exact ew'
   ·exact(hA'.cells ew').symm
  ·obtain⟨b,hbm,b1,b2,b3,b4⟩:=h.si.back y hy
   have hk:∀b∈dh t,b.wrote=true→∃c∈dh { t with now:=some a',born:=bn },c.wrote=true∧c.stamp=b.stamp∧c.cells=b.cells∧c.reads=b.reads:=by
    intro b hbm hw
    rw [wn h.st h.now] at hbm
    rcases List.mem_append.1 hbm with g | g
    ·exact⟨b,List.mem_append_left _ g,hw,rfl,rfl,rfl⟩
    ·rw [if_pos hb,List.mem_singleton] at g
     subst g
     have hw2:a.inn.wr=true:=by rw [←hA.wrote];exact hw
     rw [ew] at hw2;cases hw2
   obtain⟨c,hc,c1,c2,c3,c4⟩:=HJ h.mi hat hi hk h.at_ b hbm b1
   exact⟨c,hc,c1,by rw [c2];exact b2,by rw [c3];exact b3,by rw [c4];exact b4⟩
 have hrd:∀y∈yD r Q,∀c∈y.ks,wP h0 ((yD r Q).map (·.lg)) (y.stamp-1) c.place=c.word:=fun y hy c hc=>by
  obtain⟨b,hbm,b1,b2,_,b4⟩:=hback y hy
  have:=hM'.reads hbm c (by rw [←b4];exact hc)
  have e:b.at_=y.stamp-1:=by unfold Ta.at_;rw [b1,b2];rfl
  rw [e] at this
  rw [elg];exact this
 obtain⟨σ,_,_,c1,_,_⟩:=h.si.qp.q.at_ (a'.stamp-1)
 have hE:KM _ σ.B σ.R σ.sh a'.fs (t.rests.map (·.place)) a'.v.l.cells:=hrok _ σ (c1.shp h.si.qp.q.st0) (fun c hc=>by
  have:=hrd r (fH.2 (.inl rfl)) c hc
  rw [Mj hlog dis (by show a'.stamp-1<a'.stamp;omega)] at this
  exact this) (fun m hm=>h.si.inR h.at_ h.now ew (fun _ g hg=>by have:=hrb g hg;omega) c1 (bs:=t.rests.map (·.place)) (by
   by_cases hsw:t.sweep=true
   ·exact .inr ⟨hsw,rfl⟩
   ·exact .inl (by rw [hI.b.sw (by simpa using hsw)];rfl)) m hm)
 obtain⟨_,_,_,_,_,_,_,_,_,_,_,_,hh,hl1⟩:=hE.ex
 have hfn:a'.fs.Nodup:=by
  match hq:a'.fs,hl1 with
  | [],_=>exact List.nodup_nil
  | [z],_=>simp
  | _::_::_,g=>simp at g
 obtain⟨A,B,e1,e2⟩:=zL (f:=eM) (t':={ t with now:=some a',born:=bn }) h.at_
 have epd:eM t=t.limbo++t.rests:=by rw [wM h.st h.now,ew];rfl
 have epd':eM { t with now:=some a',born:=bn }=t.limbo++a'.fs.map fun n=>⟨n,a'.stamp⟩:=by
  rw [wM (t:={ t with now:=some a',born:=bn }) h.st rfl,ew',if_pos rfl]
  show t.limbo++(if t.sweep=true then [] else _)=_
  split
  ·rename_i g;rw [hfr g];rfl
  ·rfl
 have hput:=h.si.qp.put (x:=r) (P':=A++t.limbo++B) hrok dis hnew hrd hfn hh (fun g=>by
   cases hsw:t.sweep with
   | true=>exact absurd (hfr hsw) g
   | false=>exact hI.b.sw hsw) (by
   rw [e1,epd]
   show (A++(t.limbo++t.rests)++B).Perm (t.rests++(A++t.limbo++B))
   have p1:(A++(t.limbo++t.rests)++B).Perm (t.rests++(A++t.limbo)++B):=by
    rw [←List.append_assoc]
    exact List.perm_append_comm.append_right B
   rw [List.append_assoc t.rests] at p1
   exact p1) (fun g hg=>by have:=hrb g hg;show g.stamp<a'.stamp;omega)
 refine⟨yD r Q,h.si.asm h.mi h.at_ hat (by rw [hm];exact hTT) (fun j hj=>by rw [hm];exact h.s1 j hj) hBg (l0:=x.thr) (fun j u hu _=>hu) ⟨t,h.at_,hBg⟩ (by rw [hm];exact hTP) ?_ elg hback fun D hD g hg=>?_⟩
 ·rw [Mw hat h.si hi,e2,epd']
  refine hput.perm ?_
  show (A++t.limbo++B++a'.fs.map _).Perm (A++(t.limbo++a'.fs.map _)++B)
  simp only [List.append_assoc]
  exact List.Perm.append_left A (List.Perm.append_left _ List.perm_append_comm)
 ·rcases fH.1 hD with rfl | hD
  ·exact .inr ⟨(hT.le g (List.mem_append_right _ hg)).2,hT.sw (hsr (List.ne_nil_of_mem hg)) g hg⟩
  ·exact .inl hD
theorem SI.tell (h:SI S h0 σ0 n x L Q)(hM:MI S h0 n x L)(ht:x.thr[i]? = some t)(hgo:(az t).2=true)(hρ:cx ρ)(hM':MI S h0 n (fN ρ x i t draw sl) L')
  (hr:t.state=1→∀a,t.now=some a→nG S h0 n x.mem L (zq x.thr) i a (ao ρ a (ay x.mem (be a).1).2) (ay x.mem (be a).1).1 L') (hq:t.state≠1→L'=L) (hT':x.mem.n≤(fN ρ x i t draw sl).mem.n):∃Q',SI S h0 σ0 n (fN ρ x i t draw sl) L' Q':=by
 by_cases h1:t.state=1
 ·obtain⟨a,hn,hA,h8,_,_⟩:=(hM.thr i t ht).run h1
  have hr:=hr h1 a hn
  have en:az t=be a:=by unfold az;rw [if_pos h1,hn]
  have hi:=(List.getElem?_eq_some_iff.1 ht).1
  have hst:=hA.st
  have hlen:=hM.len
  have hsl:=hM.sl
  have hms:(fN ρ x i t draw sl).mem=(ay x.mem (be a).1).1:=by show (ay x.mem (az t).1).1=_;rw [en]
  have hT:=hM.T
  obtain⟨s1,s2,s3⟩:=Ns (m:=x.mem) (ρ:=ρ) (an:=(ay x.mem (be a).1).2) hA (by omega) h8 (fun g1 g2=>by
    by_cases c3:a.state=3
    ·obtain⟨_,f,e,_⟩:=hA.fet c3;rw [e];exact fun g=>by cases g
    by_cases c6:a.state=6
    ·obtain⟨c,e,_⟩:=hA.com c6;rw [e];exact fun g=>by cases g
    ·obtain⟨_,e,e2,_⟩:=hA.ext (by omega);rw [e2];exact fun g=>by cases g) (fun g=>by
    have:=hA.beg (by omega)
    have h3:a.stamp≤x.mem.n:=this.2.2.1
    omega) ((h.thr i t ht).slot h1 a hn) hr.beg.1
  have hat:=DZ (ρ:=ρ) (draw:=draw) (sl:=sl) ht
  rw [en] at hat
  have et:thrTell ρ t (ay x.mem (be a).1).2 draw (x.picks+1) sl=kw t a (ao ρ a (ay x.mem (be a).1).2) draw (x.picks+1) sl:=by
   unfold thrTell;rw [if_pos h1,hn]
  rw [et] at hat
  have W:Wk S h0 σ0 n ρ x L L' Q i t a (ao ρ a (ay x.mem (be a).1).2) (ay x.mem (be a).1).1:=⟨h,hM,ht,h1,hn,h8,hA,hr,hρ,s1,s2,s3⟩
  by_cases h7:a.state=7
  ·have ea:ao ρ a (ay x.mem (be a).1).2={ a with state:=8 }:=by
    unfold ao;rw [if_neg (by omega),if_neg (by omega),if_neg (by omega),if_neg (by omega),if_pos h7]
   have hf:(ao ρ a (ay x.mem (be a).1).2).state=8∧(ao ρ a (ay x.mem (be a).1).2).fin≠0:=by
    rw [ea]
    refine⟨rfl,?_⟩
    show a.fin≠0
    have:=(hA.out (by omega)).1
    omega
   unfold kw at hat
   rw [if_pos hf] at hat
   obtain⟨e,k⟩:=W.ended h7 ea hms hat
   rw [e]
   exact⟨Q,k⟩
  ·have hf:¬((ao ρ a (ay x.mem (be a).1).2).state=8∧(ao ρ a (ay x.mem (be a).1).2).fin≠0):=fun g=>RA (by omega) g.1
   unfold kw at hat
   rw [if_neg hf] at hat
   rcases hr.log with ⟨g1,g2,g3⟩ | ⟨g1,g2,g3,g4,g5⟩
   ·rw [g1]
    exact⟨Q,W.quiet h7 g1 g2 g3 hms hat⟩
   ·exact W.commit hM' h7 g1 g2 g3 g4 g5 hms hat
 ·rw [hq h1]
  exact⟨Q,h.idle hM ht h1 hgo hT'⟩
end
section
variable {S:dr}{h0:Hp}{σ0:Sg}{n i:Nat}{x:io}{L:pj}{Q:List Rc}{t:bq}
theorem JQ {s:dr}:∀{rows:List (List (List dv))}{k:Nat}{t:bq},t∈iC s k rows→∃j r,r∈rows∧t=j5 j s r
 | [],_,_,h=>by cases h
 | r::l,k,t,h=>by
  rcases List.mem_cons.1 h with e | h
  ·exact⟨k,r,List.mem_cons_self,e⟩
  ·obtain⟨j,r',hr,e⟩:=JQ h
   exact⟨j,r',List.mem_cons_of_mem _ hr,e⟩
abbrev U4:Sg:=⟨[],[],[],fun _=>[],fun _=>[]⟩
theorem Vp {h:Hp}(h5:h 5=14)(hz:∀c,c≠5→h c=0):Fm h U4 :=
 ⟨⟨h5.symm,by rw [h5];decide,fun b hb=>(by cases hb),List.nodup_nil,fun b hb=>(by cases hb),fun c h1 h4=>⟨hz c (by omega),List.nodup_nil,fun a ha=>(by cases ha)⟩,fun b hb=>(by cases hb),List.nodup_nil⟩,
  fun r hr=>⟨hz r (by omega),List.nodup_nil⟩,fun b=>by simp,fun b hb=>(by cases hb)⟩
theorem SI.ini {s:dr}{rows:List (List (List dv))}(h1:1≤rows.length)(hn:rows.length≤4)(hr:∀r∈rows,∀p∈r,sx p) :
  SI (cq s rows.length) (fun c=>(dc s rows).mem.w.getD c.toNat 0) U4 rows.length (dc s rows) [] []:=by
 have hSS:dj (cq s rows.length)=cq s rows.length:=tF _
 have e1:held (cq s rows.length).words 32 256=(cq s rows.length).words:=congrArg dr.words hSS
 have hw:=eI (n:=(cq s rows.length).words) (show (32:Int)≤256 by decide)
 have hmem:∃c,(dc s rows).mem={ lS (cq s rows.length).shape with w:=(lS (cq s rows.length).shape).w.set 5 14,count:=c }:=by
  have hin:iG 5 (lS (cq s rows.length).shape).w=true:=by
   unfold iG lS
   simp only [List.length_replicate]
   simp;omega
  refine⟨IntKind.wrap .i64 (0+1),?_⟩
  show (ay (lS (cq s rows.length).shape) ⟨2,5,0,14,ae,ae⟩).1=_
  unfold ay bz
  simp only [hin]
  rfl
 obtain⟨c,hmem⟩:=hmem
 have hpd:∀t∈(dc s rows).thr,C1 (dc s rows).thr (dc s rows).mem.n t.jobs [] t∧(∀p∈t.jobs,sx p):=fun t ht=>by
  obtain⟨j,r,hr1,rfl⟩:=JQ ht
  have:=nN (l:=(dc s rows).thr) (T:=(dc s rows).mem.n) (P:=[]) (t:=⟨j,dj (cq s rows.length),r,-1,0,false,[],0,0,none,0,false,[],[],[],[],0,0,false,0⟩) (hr r hr1) ⟨[],.nil⟩
  have ej:(j5 j (cq s rows.length) r).jobs=r:=this.jobs
  rw [ej]
  exact⟨this,hr r hr1⟩
 have hnil:(dc s rows).thr.flatMap eM=[]:=by
  rw [List.flatMap_eq_nil_iff]
  intro t ht
  obtain⟨h2,_⟩:=hpd t ht
  obtain⟨D,hD⟩:=h2.pend
  have:=hD.symm.eq_nil
  rw [h2.fresh.pend]
  simp only [List.append_eq_nil_iff] at this ⊢
  exact this.1
 refine⟨?_,rfl,fun y hy=>(by cases hy),fun y hy=>(by cases hy),fun i t ht=>?_,?_⟩
 ·rw [hnil]
  refine⟨⟨List.Pairwise.nil,fun y hy=>(by cases hy),fun y hy=>(by cases hy),fun y hy=>(by cases hy),fun y hy=>(by cases hy),Vp ?_ fun c hc=>?_⟩,fun g hg=>(by cases hg),List.nodup_nil,fun y hy=>(by cases hy)⟩
  ·show (dc s rows).mem.w.getD 5 0=14
   rw [hmem]
   show ((List.replicate _ (0:Int)).set 5 14).getD 5 0=14
   rw [List.getD_eq_getElem?_getD,List.getElem?_set_self (by rw [List.length_replicate];show 5<(held (cq s rows.length).words 32 256).toNat;omega)]
   rfl
  ·show (dc s rows).mem.w.getD c.toNat 0=0
   rw [hmem]
   show ((List.replicate _ (0:Int)).set 5 14).getD c.toNat 0=0
   rw [List.getD_eq_getElem?_getD,List.getElem?_set_ne (by omega),List.getElem?_replicate]
   split <;> rfl
 ·obtain⟨h2,h3⟩:=hpd t (List.mem_of_getElem? ht)
  have es:(dc s rows).mem.s.getD i 0=0:=by
   rw [hmem]
   show (List.replicate _ (0:Int)).getD i 0=0
   rw [List.getD_eq_getElem?_getD,List.getElem?_replicate]
   split <;> rfl
  rw [es]
  exact h2.thrP h3 fun g hg=>by cases hg
 ·have ht0:(cq s rows.length).threads=held rows.length 1 4:=rfl
  rw [ht0];unfold held;split <;> (try split) <;> omega
end
end Go.Proofs.YtoealglbimbbmaaGreatDoor.S
