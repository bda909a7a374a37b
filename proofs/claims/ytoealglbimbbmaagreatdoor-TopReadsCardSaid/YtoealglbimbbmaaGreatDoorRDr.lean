import Derived.Test.YtoealglbimbbmaaGreatDoorArena
namespace Go.Proofs.YtoealglbimbbmaaGreatDoor.S
open Go Go.Proofs
set_option linter.unusedVariables false
set_option linter.unusedSimpArgs false
def fF (n:Int):Prop:=0≤n∧n≤18446744073709551615
theorem iy:fF 0:=⟨by decide,by decide⟩
def Cw (cs:List aw):Prop:=∀c∈cs,fF c.word
def Sn (s:jS):Prop:=∀r∈s.r::s.up,Cw r.c
structure Vg (s:fh):Prop where
 k:Cw s.k
 l:Sn s.l
section
variable {cs l:List aw}{a x n b c:Int}{s:fh}{t:jS}
theorem di {α:Type}{c:Prop} [Decidable c]{a b:α}{P:α→Prop}(h1:c→P a)(h2:¬c→P b):P (if c then a else b):=by
 by_cases h:c
 ·rw [if_pos h];exact h1 h
 ·rw [if_neg h];exact h2 h
theorem gH:fF (wU n):=by
 unfold fF wU IntKind.wrap
 simp [IntKind.signed,IntKind.bits,IntKind.min,IntKind.max]
 omega
theorem Cw.nil:Cw []:=fun _ h=>by cases h
theorem Cw.cons (h1:fF x)(h2:Cw cs):Cw (⟨a,x⟩::cs):=fun c hc=>(List.mem_cons.1 hc).elim (fun e=>by rw [e];exact h1) (h2 c)
theorem Cw.put (hx:fF x):∀{cs:List aw},Cw cs→Cw (iD cs a x)
 | [],_=>Cw.cons hx .nil
 | c::cs,h=>by
  unfold iD
  split
  ·exact .cons hx fun d hd=>h d (List.mem_cons_of_mem _ hd)
  ·exact fun d hd=>(List.mem_cons.1 hd).elim (fun e=>by rw [e];exact h c List.mem_cons_self) (Cw.put hx (cs:=cs) (fun e he=>h e (List.mem_cons_of_mem _ he)) d)
theorem Cw.puts:∀{l cs:List aw},Cw cs→Cw l→Cw (iG cs l)
 | [],_,h,_=>h
 | c::l,cs,h,hl=>Cw.puts (l:=l) (cs:=iD cs c.place c.word) (Cw.put (hl c List.mem_cons_self) h) fun d hd=>hl d (List.mem_cons_of_mem _ hd)
theorem Cw.look:∀{cs:List aw},Cw cs→eI cs a=some x→fF x
 | [],_,e=>by cases e
 | c::cs,h,e=>by
  unfold eI at e
  split at e
  ·cases e;exact h c List.mem_cons_self
  ·exact Cw.look (cs:=cs) (fun d hd=>h d (List.mem_cons_of_mem _ hd)) e
theorem OW:∀{l:List Lv},(∀r∈l,Cw r.c)→pU l a=some x→fF x
 | [],_,e=>by cases e
 | r::l,h,e=>by
  unfold pU at e
  split at e
  ·rename_i h1;cases e;exact(h r List.mem_cons_self).look h1
  ·exact OW (l:=l) (fun d hd=>h d (List.mem_cons_of_mem _ hd)) e
theorem Vg.read (h:Vg s):Vg (cZ s a).1∧fF (cZ s a).2.1:=by
 unfold cZ
 split
 ·split
  ·rename_i h1;exact⟨h,OW h.l h1⟩
  ·split
   ·rename_i h1;exact⟨h,h.k.look h1⟩
   ·exact⟨⟨h.k,h.l⟩,iy⟩
 ·exact⟨h,iy⟩
theorem Sn.put (h:Sn t)(hx:fF x):Sn (t.put a x):=fun r hr=>by
 rcases List.mem_cons.1 hr with e | e
 ·rw [e];exact(h t.r List.mem_cons_self).put hx
 ·exact h r (List.mem_cons_of_mem _ e)
theorem Sn.puts:∀{l:List aw}{t:jS},Sn t→Cw l→Sn (iZ t l).1
 | [],_,h,_=>h
 | c::l,t,h,hl=>by
  unfold iZ
  split
  ·exact Sn.puts (h.put (hl c List.mem_cons_self)) fun d hd=>hl d (List.mem_cons_of_mem _ hd)
  ·exact h
theorem Vg.take (h:Vg s)(hl:Cw l):Vg (gj s l).1:=by
 unfold gj
 split
 ·refine⟨h.k,?_⟩
  show Sn (o8 s.l l).1
  unfold o8
  split
  ·exact h.l.puts hl
  ·exact h.l
 ·exact h
theorem Vg.write (h:Vg s)(hx:fF x):Vg (oJ s a x).1:=by
 unfold oJ
 split
 ·refine⟨h.k,?_⟩
  show Sn (Sd s.l a x).1
  unfold Sd
  simp only
  split
  ·exact h.l.put hx
  ·exact h.l
 ·exact h
theorem Vg.know (h:Vg s)(hx:fF x):Vg (oY s a x).1:=by
 unfold oY
 split
 ·split
  ·exact h
  ·exact⟨fun c hc=>(List.mem_append.1 hc).elim (h.k c) fun e=>by rw [List.mem_singleton.1 e];exact hx,h.l⟩
 ·exact h
theorem Vg.free (h:Vg s):Vg (s.log (s.l.free n)):=⟨h.k,fun r hr=>by
 rcases List.mem_cons.1 hr with g | g
 ·rw [g];exact h.l s.l.r List.mem_cons_self
 ·exact h.l r (List.mem_cons_of_mem _ g)⟩
theorem Vg.again (h:Vg s):Vg (rU s c b).1:=by
 unfold rU
 have h1:=h.read (a:=iP b)
 have h2:=h1.1.take (l:=[⟨gN c,(cZ s (iP b)).2.1⟩,⟨iP (iP b-1),wU (iP (c+8))⟩]) (.cons h1.2 (.cons gH .nil))
 split
 ·exact h
 ·split
  ·split <;> exact h2
  ·exact h1.1
theorem Vg.grown (h:Vg s):Vg (sc s c).1:=by
 unfold sc
 have h1:=h.read (a:=5)
 have h2:=h1.1.take (l:=wi (cZ s 5).2.1 c) (.cons gH (.cons gH .nil))
 split
 ·split
  ·exact h1.1
  ·split <;> exact h2
 ·exact h1.1
theorem Vg.alloc (h:Vg s):Vg (qf s n).1:=by
 unfold qf
 have h1:=h.read (a:=gN (ku n))
 split
 ·exact h
 ·split
  ·split
   ·exact h1.1.grown
   ·exact h1.1.again
  ·exact h1.1
theorem Vg.asked (h:Vg s):Vg (ig s b).1:=by
 unfold ig
 have h1:=h.read (a:=iP (b-1))
 split
 ·exact h
 ·split
  ·split <;> exact h1.1
  ·exact h1.1
theorem Vg.freed (h:Vg s):Vg (zz s b).1:=by
 unfold zz Fb
 have h1:=h.asked (b:=b)
 generalize ig s b=q at h1 ⊢
 have h2:=h1.take (l:=[⟨iP (b-1),wU q.2.1⟩]) (.cons gH .nil)
 split
 ·split
  ·split
   ·exact h2.free
   ·exact h2
  ·exact h1
 ·exact h1
theorem Vg.give (h:Vg s):Vg (pp s b).1:=by
 unfold pp E1
 have h1:=h.asked (b:=b)
 generalize ig s b=q at h1 ⊢
 have h2:=h1.read (a:=gN q.2.1)
 split
 ·split
  ·exact h1
  ·split
   ·exact h2.1.take (.cons h2.2 (.cons gH .nil))
   ·exact h2.1
 ·exact h1
end
structure M6 (s:fh):Prop where
 ok:xI s.l
 in_:∀r∈s.l.r::s.l.up,∀c∈r.c,c.place<s.size
def Nd (t:fh):Prop:=LS t t.need=true∧eI t.k t.need=none
structure Vs (s t:fh)(d:Nat):Prop where
 k:t.k=s.k
 size:t.size=s.size
 ok:M6 s→M6 t
 fr:t.l.frees.length≤s.l.frees.length+d
def Vr (s:fh)(t:fh)(e:Int)(d:Nat):Prop:=Vs s t d∧(e=11→Nd t∧t.l.frees.length≤s.l.frees.length)
section
variable {s t u:fh}{d d2:Nat}{a x e n c:Int}{l:List aw}
theorem Vs.refl:Vs s s 0:=⟨rfl,rfl,id,Nat.le_refl _⟩
theorem Vs.trans (h:Vs s t d)(g:Vs t u d2):Vs s u (d+d2):=⟨g.k.trans h.k,g.size.trans h.size,fun o=>g.ok (h.ok o),by have:=h.fr;have:=g.fr;omega⟩
theorem Vs.le (h:Vs s t d)(g:d≤d2):Vs s t d2:=⟨h.k,h.size,h.ok,by have:=h.fr;omega⟩
theorem Vr.of (h:Vs s t d)(he:e≠11):Vr s t e d:=⟨h,fun g=>absurd g he⟩
theorem Vr.trans (h:Vs s t 0)(g:Vr t u e d):Vr s u e d:=⟨by have:=h.trans g.1;rw [Nat.zero_add] at this;exact this,fun e=>⟨(g.2 e).1,by have:=(g.2 e).2;have:=h.fr;omega⟩⟩
theorem wA {s:jS}:s.frees.length=(gq s.up).length+s.r.f.length:=by
 unfold jS.frees
 rw [rY,List.length_append]
 have h1:∀l:List Lv,(gq l.reverse).length=(gq l).length:=fun l=>by
  unfold gq
  simp [List.length_flatMap,List.map_reverse,List.sum_reverse]
 rw [h1]
 simp [gq]
theorem i7 {s:fh}{a:Int}:Vr s (cZ s a).1 (cZ s a).2.2 0:=by
 unfold cZ
 split
 ·rename_i hv
  split
  ·exact .of .refl (by simp)
  ·split
   ·exact .of .refl (by simp)
   ·rename_i h2
    exact⟨⟨rfl,rfl,fun o=>⟨o.ok,o.in_⟩,Nat.le_refl _⟩,fun _=>⟨⟨hv,h2⟩,Nat.le_refl _⟩⟩
 ·exact .of .refl (by simp)
theorem Pb {s:jS}{a:Int}:kY s a≠11:=by unfold kY;split <;> (try split) <;> (try split) <;> decide
theorem Lz {cs:List aw}{a x:Int}{z:aw}(h:z∈iD cs a x):z∈cs∨z=⟨a,x⟩:=by
 cases hi:iT cs a with
 | none=>rw [(iQ hi).1] at h;simpa using h
 | some k =>
  obtain⟨_,_,g,_⟩:=mP hi
  rw [g] at h
  exact List.mem_or_eq_of_mem_set h
theorem LF {z:aw}:∀{l cs:List aw},z∈iG cs l→z∈cs∨∃c∈l,z.place=c.place
 | [],cs,h=>.inl h
 | c::l,cs,h=>by
  have h:z∈iG (iD cs c.place c.word) l:=h
  rcases LF h with g | ⟨y,hy,g⟩
  ·rcases Lz g with g | g
   ·exact .inl g
   ·exact .inr ⟨c,by simp,by rw [g]⟩
  ·exact .inr ⟨y,by simp [hy],g⟩
theorem R7 {s:fh}(ha:a<s.size)(h0:kY s.l a=0):Vs s (s.log (s.l.put a x)) 0 :=
 ⟨rfl,rfl,fun o=>⟨o.ok.put h0,fun r hr z hz=>by
  rcases List.mem_cons.1 hr with e | hr
  ·subst e
   rcases Lz hz with g | g
   ·exact o.in_ _ (by simp) z g
   ·rw [g];exact ha
  ·exact o.in_ r (List.mem_cons_of_mem _ hr) z hz⟩,by
  show (s.l.put a x).frees.length≤_
  rw [wA,wA];exact Nat.le_refl _⟩
theorem Hm (h:LS s a=true):1≤a∧a<s.size:=by unfold LS at h;simpa using h
theorem LD:Vr s (oJ s a x).1 (oJ s a x).2 0:=by
 unfold oJ
 split
 ·rename_i hv
  refine .of ?_ Pb
  show Vs s (s.log (if kY s.l a=0 then s.l.put a x else s.l)) 0
  split
  ·rename_i h0;exact R7 (Hm hv).2 h0
  ·exact⟨rfl,rfl,fun o=>⟨o.ok,o.in_⟩,Nat.le_refl _⟩
 ·exact .of .refl (by simp)
theorem OL:∀{l:List aw}{s:fh},(∀c∈l,c.place<s.size)→Vs s (s.log (iZ s.l l).1) 0∧(iZ s.l l).2≠11
 | [],s,_=>⟨⟨rfl,rfl,fun o=>⟨o.ok,o.in_⟩,Nat.le_refl _⟩,by simp [iZ]⟩
 | c::l,s,h=>by
  unfold iZ
  split
  ·rename_i h0
   have h1:=R7 (s:=s) (x:=c.word) (h c (by simp)) h0
   have h2:=OL (l:=l) (s:=s.log (s.l.put c.place c.word)) (fun y hy=>h y (by simp [hy]))
   exact⟨h1.trans h2.1,h2.2⟩
  ·exact⟨⟨rfl,rfl,fun o=>⟨o.ok,o.in_⟩,Nat.le_refl _⟩,Pb⟩
theorem pN:Vr s (gj s l).1 (gj s l).2 0:=by
 unfold gj
 split
 ·rename_i hv
  have hv:∀c∈l,c.place<s.size:=fun c hc=>(Hm (List.all_eq_true.1 hv c hc)).2
  have h:=OL hv
  unfold o8
  split
  ·exact .of h.1 (by simp)
  ·exact .of ⟨rfl,rfl,fun o=>⟨o.ok,o.in_⟩,Nat.le_refl _⟩ h.2
 ·exact .of .refl (by simp)
theorem OT:Vs s (s.log (s.l.free n)) 1:=by
 refine⟨rfl,rfl,fun o=>⟨o.ok.free,fun r hr z hz=>?_⟩,?_⟩
 ·rcases List.mem_cons.1 hr with e | hr
  ·subst e;exact o.in_ s.l.r (by simp) z hz
  ·exact o.in_ r (List.mem_cons_of_mem _ hr) z hz
 ·simp only [wA,jS.free,List.length_append,List.length_singleton];omega
theorem Rv:Vr s (rU s c a).1 (rU s c a).2.2 0:=by
 unfold rU
 split
 ·exact .of .refl (by simp)
 ·split
  ·refine .trans (i7 (a:=iP a)).1 ?_
   split
   ·exact .of pN.1 (by simp)
   ·exact pN
  ·exact i7
theorem RX:Vr s (sc s c).1 (sc s c).2.2 0:=by
 unfold sc
 split
 ·refine .trans (i7 (a:=5)).1 ?_
  split
  ·exact .of .refl (by simp)
  ·split
   ·exact .of pN.1 (by simp)
   ·exact pN
 ·exact i7
theorem Rz:Vr s (qf s n).1 (qf s n).2.2 0:=by
 unfold qf
 split
 ·exact .of .refl (by simp)
 ·split
  ·refine .trans (i7 (a:=gN (ku n))).1 ?_
   split
   ·exact RX
   ·exact Rv
  ·exact i7
theorem xJ:Vr s (ig s n).1 (ig s n).2.2.2 0:=by
 unfold ig
 split
 ·exact .of .refl (by simp)
 ·split
  ·split
   ·exact .of i7.1 (by simp)
   ·exact .of i7.1 (by simp)
  ·exact i7
theorem RA:Vr s (zz s n).1 (zz s n).2 1:=by
 unfold zz Fb
 split
 ·refine .trans (xJ (n:=n)).1 ?_
  split
  ·split
   ·exact .of (pN.1.trans OT) (by simp)
   ·exact⟨pN.1.le (by omega),pN.2⟩
  ·exact .of (Vs.refl.le (by omega)) (by simp)
 ·exact⟨xJ.1.le (by omega),xJ.2⟩
theorem Tt:Vr s (pp s n).1 (pp s n).2 0:=by
 unfold pp E1
 split
 ·refine .trans (xJ (n:=n)).1 ?_
  split
  ·exact .of .refl (by simp)
  ·split
   ·exact .trans i7.1 pN
   ·exact i7
 ·exact xJ
end
end Go.Proofs.YtoealglbimbbmaaGreatDoor.S
namespace Go.Proofs.YtoealglbimbbmaaGreatDoor.S
open Go Go.Proofs
set_option linter.unusedVariables false
set_option linter.unusedSimpArgs false
theorem al.roA {w0:bg}{L:List ax}{F:World→Prop}{κ σ ι:Type}{R:κ→σ→ax}{k:κ}{s:σ}{C:ax→List ax}[i:al L R k s C]{P:ι→Prop}{F':ι→World→Prop}(h:∀M,(∀y,P y→G w0 (ob R k s::M) (F' y))→G w0 (ob R k s::M) F)(h':∀y,P y→G w0 L (F' y)):G w0 L F:=by
 obtain⟨M,e1,_⟩:=i.fronts
 rw [da e1]
 exact h M fun y hy=>by rw [←da e1];exact h' y hy
structure Ip (U:Prop)(s:fh)(err steps:Int)(q:Nat×Nat):Prop where
 vg:U→Vg s
 fr:s.l.frees.length≤q.2
 st:err=0→0≤steps∧steps≤2048∧2048-steps≤q.1
def DX (b:Nat)(z:Prop×Nat×Nat):ax:=jX fun vp=>jX fun s:fh=>jX fun err=>jX fun steps=>bu (fS (Ip z.1 s err steps z.2)) (bu (own b [ptr vp 0,i64 err,i64 steps]) (ob ba vp s))
theorem Mv:∀{l:List aw}{s:jS},(iZ s l).1.r.f=s.r.f
 | [],s=>rfl
 | c::l,s=>by
  unfold iZ
  split
  ·rw [Mv];rfl
  ·rfl
theorem Md {s:fh}{l:List aw}:(gj s l).1.l.r.f=s.l.r.f:=by
 unfold gj
 split
 ·show (o8 s.l l).1.r.f=_
  unfold o8
  split
  ·exact Mv
  ·rfl
 ·rfl
theorem E9 {s:fh}{a:Int}:(cZ s a).1.l=s.l:=by
 unfold cZ
 split
 ·split
  ·rfl
  ·split <;> rfl
 ·rfl
theorem SB {s:fh}{n:Int}:(ig s n).1.l=s.l:=by
 unfold ig
 split
 ·rfl
 ·split
  ·split <;> exact E9
  ·exact E9
theorem UI {s:jS}:s.r.f.length≤s.frees.length:=by rw [wA];omega
section
variable {w0:bg}{L M:List ax}{K:KV}{F:World→Prop}{C:ax→List ax}{b vp:Nat}{s:fh}{q:Nat×Nat}{n a x e err steps:Int}{v:Value}{U:Prop}
theorem np:G w0 (ob DX b (U,q)::M) F=∀vp (s:fh)(err steps:Int),Ip U s err steps q→G w0 (own b [ptr vp 0,i64 err,i64 steps]::ob ba vp s::M) F:=by
 rw [dO,DX]
 simp only [lT,dP,eS]
theorem fX (b vp:Nat)(s:fh)(err steps:Int)(q:Nat×Nat)(h:Ip U s err steps q) [cx [own b [ptr vp 0,i64 err,i64 steps],ob ba vp s] L M](H:G w0 (ob DX b (U,q)::M) F):G w0 L F :=
 G.pickAll (As:=[own b [ptr vp 0,i64 err,i64 steps],ob ba vp s]) (by rw [np] at H;exact H vp s err steps h)
abbrev Af (err e:Int):Int:=if err=0 then e else err
theorem HN [i:al L gI b [v,i64 err,i64 steps] C](hK:G w0 L (K (.bool (decide (err=0))))):G w0 L (CP Tryz.prog LE [ptr b 0] K):=by
 refine i.ro (fun M hK=>?_) hK
 refine Dv ?_
 unfold tu
 refine gz ?_
 exact hK
theorem Aw [i:al L gI b [v,i64 err,i64 steps] C](hK:G w0 (C (own b [v,i64 (Af err e),i64 steps])) (K (.tuple #[]))):G w0 L (CP Tryz.prog Xh [ptr b 0,i64 e] K):=by
 refine i.use (fun M hK=>?_) hK
 refine At ?_
 unfold qr
 refine HN (b:=b) ?_
 unfold Af at hK
 by_cases h:err=0
 ·rw [if_pos h] at hK
  repeat' (first | (with_reducible refine G.joini0 ?_) | (with_reducible refine G.joini1 ?_) | (with_reducible refine G.drew ?_) | (simp (maxSteps:=2000000) only [↓RG,RP,RB,BEq.rfl,Int.reduceEq,Int.reduceLT,Int.reduceLE,Nat.reduceEqDiff,eq_true h]))
  exact hK
 ·rw [if_neg h] at hK
  repeat' (first | (with_reducible refine G.joini0 ?_) | (with_reducible refine G.joini1 ?_) | (with_reducible refine G.drew ?_) | (simp (maxSteps:=2000000) only [↓RG,RP,RB,BEq.rfl,Int.reduceEq,Int.reduceLT,Int.reduceLE,Nat.reduceEqDiff,h]))
  exact hK
theorem Ip.er (h:Ip U s err steps q):Ip U s (Af err e) steps q:=⟨h.vg,h.fr,fun g=>h.st (by unfold Af at g;split at g <;> simp_all)⟩
theorem eH [i:al L DX b (U,q) C](hK:∀t,G w0 L (K (.bool t))):G w0 L (CP Tryz.prog LE [ptr b 0] K):=by
 refine i.roA (P:=fun _:Bool=>True) (F':=fun t=>K (.bool t)) (fun M hK=>?_) (fun t _=>hK t)
 rw [np]
 intro vp s err steps h
 refine HN (b:=b) ?_
 refine fX b vp s err steps q h ?_
 exact hK _ trivial
theorem cj [i:al L DX b (U,q) C](hK:G w0 L (K (.tuple #[]))):G w0 L (CP Tryz.prog Xh [ptr b 0,i64 e] K):=by
 refine i.ro (fun M hK=>?_) hK
 rw [np]
 intro vp s err steps h
 refine Aw (b:=b) ?_
 refine fX b vp s (Af err e) steps q h.er ?_
 exact hK
theorem bz [i:al L DX b (U,q) C](hK:∀x,(U→fF x)→G w0 L (K (u64 x))):G w0 L (CP Tryz.prog ge [ptr b 0,i64 a] K):=by
 refine i.roA (P:=fun x=>U→fF x) (F':=fun x=>K (u64 x)) (fun M hK=>?_) hK
 rw [np]
 intro vp s err steps h
 refine z4 ?_
 unfold qm
 refine HN (b:=b) ?_
 by_cases c:err=0
 ·refine gf (eq_true c) ?_
  refine ib (b:=vp) (s:=s) ?_
  refine gg ?_
  refine Aw (b:=b) ?_
  refine fX b vp (cZ s a).1 (Af err (cZ s a).2.2) steps q (Ip.er ⟨fun u=>(h.vg u).read.1,by rw [E9];exact h.fr,h.st⟩) ?_
  repeat' (first | (with_reducible refine G.joini0 ?_) | (with_reducible refine G.joini1 ?_) | (with_reducible refine G.drew ?_) | (simp (maxSteps:=2000000) only [↓RG,RP,RB,BEq.rfl,Int.reduceEq,Int.reduceLT,Int.reduceLE,Nat.reduceEqDiff]))
  exact hK _ fun u=>(h.vg u).read.2
 ·refine gf c ?_
  refine fX b vp s err steps q h ?_
  exact hK _ fun _=>iy
theorem ck {w:Int}[i:al L DX b (U,q) C](hK:∀x,G w0 L (K (i64 x))):G w0 L (CP Tryz.prog Zx [ptr b 0,u64 w] K):=by
 refine AC ?_
 unfold qj
 by_cases h:2147483648≤w
 ·refine gf h ?_
  refine cj (b:=b) ?_
  repeat' (first | (with_reducible refine G.joini0 ?_) | (with_reducible refine G.joini1 ?_) | (with_reducible refine G.drew ?_) | (simp (maxSteps:=2000000) only [↓RG,RP,RB,BEq.rfl,Int.reduceEq,Int.reduceLT,Int.reduceLE,Nat.reduceEqDiff]))
  exact hK _
 ·refine gf h ?_
  exact hK _
theorem bh [i:al L DX b (U,q) C](hK:∀x,G w0 L (K (i64 x))):G w0 L (CP Tryz.prog LT [ptr b 0,i64 a] K):=by
 refine yK ?_
 unfold pe
 refine bz (b:=b) fun x _=>?_
 exact ck (b:=b) hK
theorem bl (hx:U→fF x:=by first | assumption | exact fun _=>gH | exact fun _=>iy)[i:al L DX b (U,q) C](hK:G w0 L (K (.tuple #[]))):G w0 L (CP Tryz.prog GE [ptr b 0,i64 a,u64 x] K):=by
 refine i.ro (fun M hK=>?_) hK
 rw [np]
 intro vp s err steps h
 refine yE ?_
 unfold o9
 refine HN (b:=b) ?_
 by_cases c:err=0
 ·repeat' (first | (with_reducible refine G.joini0 ?_) | (with_reducible refine G.joini1 ?_) | (with_reducible refine G.drew ?_) | (simp (maxSteps:=2000000) only [↓RG,RP,RB,BEq.rfl,Int.reduceEq,Int.reduceLT,Int.reduceLE,Nat.reduceEqDiff,eq_true c]))
  refine BQ (b:=vp) (s:=s) ?_
  repeat' (first | (with_reducible refine G.joini0 ?_) | (with_reducible refine G.joini1 ?_) | (with_reducible refine G.drew ?_) | (simp (maxSteps:=2000000) only [↓RG,RP,RB,BEq.rfl,Int.reduceEq,Int.reduceLT,Int.reduceLE,Nat.reduceEqDiff]))
  refine Aw (b:=b) ?_
  refine fX b vp (oJ s a x).1 (Af err (oJ s a x).2) steps q (Ip.er ⟨fun u=>(h.vg u).write (hx u),by have:=(LD (s:=s) (a:=a) (x:=x)).1.fr;have:=h.fr;omega,h.st⟩) ?_
  exact hK
 ·repeat' (first | (with_reducible refine G.joini0 ?_) | (with_reducible refine G.joini1 ?_) | (with_reducible refine G.drew ?_) | (simp (maxSteps:=2000000) only [↓RG,RP,RB,BEq.rfl,Int.reduceEq,Int.reduceLT,Int.reduceLE,Nat.reduceEqDiff,c]))
  refine fX b vp s err steps q h ?_
  exact hK
theorem bi {t:Int}[i:al L DX b (U,q) C](hK:G w0 L (K (.tuple #[]))):G w0 L (CP Tryz.prog go [ptr b 0,i64 a,i64 t] K):=by
 refine yT ?_
 unfold oU
 refine gz ?_
 exact bl (b:=b) (fun _=>gH) hK
theorem bj [i:al L DX b (U,q) C](hK:∀x,G w0 L (K (i64 x))):G w0 L (CP Tryz.prog Xn [ptr b 0,i64 n] K):=by
 refine i.roA (P:=fun _=>True) (F':=fun x=>K (i64 x)) (fun M hK=>?_) (fun x _=>hK x)
 rw [np]
 intro vp s err steps h
 refine yz ?_
 unfold pg
 refine HN (b:=b) ?_
 by_cases c:err=0
 ·refine gf (eq_true c) ?_
  refine Ig (b:=vp) (s:=s) ?_
  refine gg ?_
  refine Aw (b:=b) ?_
  refine fX b vp (qf s n).1 (Af err (qf s n).2.2) steps q (Ip.er ⟨fun u=>(h.vg u).alloc,by have:=(Rz (s:=s) (n:=n)).1.fr;have:=h.fr;omega,h.st⟩) ?_
  repeat' (first | (with_reducible refine G.joini0 ?_) | (with_reducible refine G.joini1 ?_) | (with_reducible refine G.drew ?_) | (simp (maxSteps:=2000000) only [↓RG,RP,RB,BEq.rfl,Int.reduceEq,Int.reduceLT,Int.reduceLE,Nat.reduceEqDiff]))
  exact hK _ trivial
 ·refine gf c ?_
  refine fX b vp s err steps q h ?_
  exact hK _ trivial
theorem Hv (hf:q.2≤1000)[i:al L DX b (U,q) C](hK:G w0 (C (ob DX b (U,(q.1,q.2+1)))) (K (.tuple #[]))):G w0 L (CP Tryz.prog XB [ptr b 0,i64 n] K):=by
 refine i.use (fun M hK=>?_) hK
 rw [np]
 intro vp s err steps h
 have h2:=h.fr
 have h3:=UI (s:=s.l)
 refine Aq ?_
 unfold pT
 refine HN (b:=b) ?_
 by_cases c:err=0
 ·repeat' (first | (with_reducible refine G.joini0 ?_) | (with_reducible refine G.joini1 ?_) | (with_reducible refine G.drew ?_) | (simp (maxSteps:=2000000) only [↓RG,RP,RB,BEq.rfl,Int.reduceEq,Int.reduceLT,Int.reduceLE,Nat.reduceEqDiff,eq_true c]))
  refine Kn (b:=vp) (s:=s) (by omega) (fun l=>by rw [Md,SB];omega) ?_
  repeat' (first | (with_reducible refine G.joini0 ?_) | (with_reducible refine G.joini1 ?_) | (with_reducible refine G.drew ?_) | (simp (maxSteps:=2000000) only [↓RG,RP,RB,BEq.rfl,Int.reduceEq,Int.reduceLT,Int.reduceLE,Nat.reduceEqDiff]))
  refine Aw (b:=b) ?_
  refine fX b vp (zz s n).1 (Af err (zz s n).2) steps (q.1,q.2+1) (Ip.er ⟨fun u=>(h.vg u).freed,by have:=(RA (s:=s) (n:=n)).1.fr;simp only;omega,h.st⟩) ?_
  exact hK
 ·repeat' (first | (with_reducible refine G.joini0 ?_) | (with_reducible refine G.joini1 ?_) | (with_reducible refine G.drew ?_) | (simp (maxSteps:=2000000) only [↓RG,RP,RB,BEq.rfl,Int.reduceEq,Int.reduceLT,Int.reduceLE,Nat.reduceEqDiff,c]))
  refine fX b vp s err steps (q.1,q.2+1) ⟨h.vg,by simp only;omega,h.st⟩ ?_
  exact hK
theorem wP [i:al L DX b (U,q) C](h1:∀m,q.1=m+1→G w0 (C (ob DX b (U,(m,q.2)))) (K (.bool true)))(h0:G w0 L (K (.bool false))):G w0 L (CP Tryz.prog Xo [ptr b 0] K):=by
 obtain⟨M,e1,e2,_⟩:=i.fronts
 rw [da e1] at h0 ⊢
 have h1:=fun m hm=>(da (e2 _)) ▸ h1 m hm
 rw [np]
 intro vp s err steps h
 refine zV ?_
 unfold qI
 by_cases c:err=0
 ·obtain⟨g1,g2,g3⟩:=h.st c
  have ew:IntKind.wrap .i64 (steps+1)=steps+1:=ik (by omega) (by omega)
  by_cases c2:2048<steps+1
  ·refine gf (an ew c2) ?_
   refine Aw (b:=b) ?_
   repeat' (first | (with_reducible refine G.joini0 ?_) | (with_reducible refine G.joini1 ?_) | (with_reducible refine G.drew ?_) | (simp (maxSteps:=2000000) only [↓RG,RP,RB,BEq.rfl,Int.reduceEq,Int.reduceLT,Int.reduceLE,Nat.reduceEqDiff]))
   refine HN (b:=b) ?_
   have e3:¬Af err 2=0:=by unfold Af;rw [if_pos c];decide
   rw [decide_eq_false e3]
   refine fX b vp s (Af err 2) (steps+1) q ⟨h.vg,h.fr,fun g=>absurd g e3⟩ ?_
   exact h0
  ·refine gf (an ew c2) ?_
   refine HN (b:=b) ?_
   rw [decide_eq_true c]
   obtain⟨m,hm⟩:∃m,q.1=m+1:=⟨q.1-1,by omega⟩
   refine fX b vp s err (steps+1) (m,q.2) ⟨h.vg,h.fr,fun _=>⟨by omega,by omega,by simp only;omega⟩⟩ ?_
   exact h1 m hm
 ·by_cases c2:2048<IntKind.wrap .i64 (steps+1)
  ·refine gf c2 ?_
   refine Aw (b:=b) ?_
   repeat' (first | (with_reducible refine G.joini0 ?_) | (with_reducible refine G.joini1 ?_) | (with_reducible refine G.drew ?_) | (simp (maxSteps:=2000000) only [↓RG,RP,RB,BEq.rfl,Int.reduceEq,Int.reduceLT,Int.reduceLE,Nat.reduceEqDiff]))
   refine HN (b:=b) ?_
   have e3:¬Af err 2=0:=by unfold Af;rw [if_neg c];exact c
   rw [decide_eq_false e3]
   refine fX b vp s (Af err 2) (IntKind.wrap .i64 (steps+1)) q ⟨h.vg,h.fr,fun g=>absurd g e3⟩ ?_
   exact h0
  ·refine gf c2 ?_
   refine HN (b:=b) ?_
   rw [decide_eq_false c]
   refine fX b vp s err (IntKind.wrap .i64 (steps+1)) q ⟨h.vg,h.fr,fun g=>absurd g c⟩ ?_
   exact h0
end
theorem CW:∀(m:Nat)(l:List Int),l.Nodup→(∀x∈l,0≤x∧x<m)→l.length≤m
 | 0,l,_,h=>by
  cases l with
  | nil=>simp
  | cons x l=>have:=h x (by simp);omega
 | m+1,l,hn,h=>by
  by_cases hm:(m:Int)∈l
  ·have h1:=CW m (l.erase m) (hn.erase _) (fun x hx=>by
    have h2:=h x (List.mem_of_mem_erase hx)
    have h3:x≠m:=fun e=>by subst e;exact(List.Nodup.not_mem_erase hn) hx
    omega)
   rw [List.length_erase_of_mem hm] at h1
   omega
  ·have:=CW m l hn (fun x hx=>by
    have h2:=h x hx
    have h3:x≠m:=fun e=>hm (e ▸ hx)
    omega)
   omega
theorem MG.few {s:fh}(h:MG s):s.k.length≤256:=by
 have:=CW 256 (s.k.map (·.place)) h.nodup (fun x hx=>by
  obtain⟨c,hc,rfl⟩:=List.mem_map.1 hx
  have h1:=h.places c hc
  have h2:=h.hi
  omega)
 simpa using this
section
variable {w0:bg}{L M:List ax}{K:KV}{F:World→Prop}{C:ax→List ax}{b:Nat}{s:fh}{n a x e:Int}{U:Prop}
theorem G.okV [i:al L ba b s C](h:MG s→xI s.l→G w0 L F):G w0 L F:=by
 by_cases hv:MG s
 ·by_cases hl:xI s.l
  ·exact h hv hl
  ·refine i.ro (F':=fun _=>True) (fun M _=>?_) (fun _ _=>trivial)
   rw [dK]
   intro vf vo lp _
   refine G.okL (b:=lp) (s:=s.l) fun hl2=>absurd hl2 hl
 ·refine i.ro (F':=fun _=>True) (fun M _=>?_) (fun _ _=>trivial)
  rw [dK]
  exact fun vf vo lp h=>absurd h.2.2 hv
abbrev Wk (w m:Int):fh:=⟨(held w 32 256).toNat,[],⟨held m 0 96,⟨[],[]⟩,[]⟩,0⟩
structure S1 (U:Prop)(s:fh):Prop where
 vg:U→Vg s
 fr:s.l.frees=[]
theorem Pk:(oY s a x).1.l=s.l:=by
 unfold oY
 split
 ·split <;> rfl
 ·rfl
theorem S1.know (h:S1 U s)(hx:U→fF x):S1 U (oY s a x).1:=⟨fun u=>(h.vg u).know (hx u),by rw [Pk];exact h.fr⟩
theorem S1.new {n w:Int}:S1 U (Wk n w):=⟨fun _=>⟨.nil,fun r hr=>by
 rcases List.mem_cons.1 hr with e | e
 ·rw [e];exact .nil
 ·cases e⟩,rfl⟩
theorem Fg {s:jS}(h:Sn s):Cw s.cells:=by
 unfold jS.cells
 have key:∀{l:List Lv} {cs:List aw},(∀r∈l,Cw r.c)→Cw cs→Cw (l.foldl (fun out q=>iG q.c out) cs):=fun {l}=>by
  induction l with
  | nil=>intro cs _ h;exact h
  | cons q l ih=>intro cs h1 h2;exact ih (fun r hr=>h1 r (List.mem_cons_of_mem _ hr)) (Cw.puts (h1 q List.mem_cons_self) h2)
 exact key (fun r hr=>h r (List.mem_cons_of_mem _ hr)) (h s.r List.mem_cons_self)
theorem WZ (hg:U→Vg s)[i:al L ba b s C](hK:∀c t,S1 U t→G w0 (ob ba c t::L) (K (ptr c 0))):G w0 L (CP Tryz.prog ab6 [ptr b 0] K):=by
 refine i.roN (P:=fun z:Nat×fh=>S1 U z.2) (N:=fun z=>ob ba z.1 z.2) (F':=fun z=>K (ptr z.1 0)) (fun M hK=>?_) (fun z hz=>hK z.1 z.2 hz)
 refine Oe ?_
 unfold F7
 refine G.okV (b:=b) (s:=s) fun hv hl=>?_
 have hcl:=Fk hl
 have hkl:=hv.few
 refine wL (b:=b) (s:=s) ?_
 refine GP fun c=>?_
 refine pF (b:=b) (s:=s) fun u hu=>?_
 refine gz ?_
 have hcw:=fun u=>Fg (hg u).l
 refine G.loop1 (σ:=Nat×fh) (fun z=>i64 z.1) (fun z=>sl bd u s.l.cells::ob ba c z.2::ob ba b s::M) (fun z=>z.1≤s.l.cells.length∧S1 U z.2) (fun z=>s.l.cells.length-z.1) (0,Wk s.size 96) rfl rfl ⟨by simp,S1.new⟩ ?_
 rintro⟨k,t⟩ ⟨hk,ht⟩ J hJ
 simp only at hk ht hJ ⊢
 refine gz ?_
 refine G.cond (fun h=>?_) (fun h=>?_)
 ·have hk2:k<s.l.cells.length:=by simpa using h
  have e:=cW hk2
  refine gz ?_
  refine G.new fun q=>?_
  refine gz ?_
  refine G.okV (b:=c) (s:=t) fun hv2 _=>?_
  have hf2:=hv2.few
  refine xz (b:=c) (s:=t) (by omega) ?_
  refine gz ?_
  rw [dt (by omega)]
  exact(hJ (k+1,(oY t s.l.cells[k].place s.l.cells[k].word).1) ⟨hk2,ht.know fun u=>hcw u _ (List.getElem_mem hk2)⟩ (by simp only;omega)).sub
 ·refine Bd (b:=b) (s:=s) (by omega) fun u2 hu2=>?_
  refine gz ?_
  refine G.loop1 (σ:=Nat×fh) (fun z=>i64 z.1) (fun z=>sl bd u2 s.k::sl bd u s.l.cells::ob ba c z.2::ob ba b s::M) (fun z=>z.1≤s.k.length∧S1 U z.2) (fun z=>s.k.length-z.1) (0,t) rfl rfl ⟨by simp,ht⟩ ?_
  rintro⟨k2,t2⟩ ⟨hk2,ht2⟩ J2 hJ2
  simp only at hk2 ht2 hJ2 ⊢
  refine gz ?_
  refine G.cond (fun h=>?_) (fun h=>?_)
  ·have hk3:k2<s.k.length:=by simpa using h
   have e:=cW hk3
   refine gz ?_
   refine G.new fun q=>?_
   refine gz ?_
   refine G.okV (b:=c) (s:=t2) fun hv2 _=>?_
   have hf2:=hv2.few
   refine xz (b:=c) (s:=t2) (by omega) ?_
   refine gz ?_
   rw [dt (by omega)]
   exact(hJ2 (k2+1,(oY t2 s.k[k2].place s.k[k2].word).1) ⟨hk3,ht2.know fun u=>(hg u).k _ (List.getElem_mem hk3)⟩ (by simp only;omega)).sub
  ·exact(hK (c,t2) ht2).sub
structure LC (U:Prop)(s t:fh)(e:Int)(d:Nat):Prop where
 vr:Vr s t e d
 vg:U→Vg t
 rf:t.l.r.f.length≤s.l.r.f.length+d
theorem EC {g:Value}{root:Int}(f:Nat)(hf:f≤1000)(hs:s.l.r.f.length≤100000)(hg:U→Vg s)[i:al L ba b s C]
  (hcall:∀(c:Nat) (K':KV),G w0 (ob DX c (U,(2048,f))::L) (K' (.tuple #[]))→G w0 (ob DX c (U,(2048,0))::L) (rQ Tryz.prog g [ptr c 0] K'))
  (hK:∀t e,LC U s t e f→G w0 (C (ob ba b t)) (K (i64 e))):G w0 L (CP Tryz.prog Or [ptr b 0,i64 root,g] K):=by
 refine N4 ?_
 unfold Fh
 have h0:LC U s s 2 f:=⟨.of (Vs.refl.le (by omega)) (by decide),hg,by omega⟩
 have hL:∀{e:Int},LC U s s e f→G w0 L (K (i64 e)):=fun h=>by rw [i.here];exact hK s _ h
 refine gu ?_
 by_cases h1:root<6
 ·refine dN h1 ?_
  exact hL h0
 by_cases h2:14≤root
 ·refine dN (an h1 h2) ?_
  exact hL h0
 refine dN (an h1 h2) ?_
 refine WZ (b:=b) (s:=s) hg fun c t0 ht0=>?_
 refine gz ?_
 refine G.box fun dp=>?_
 refine fX dp c t0 0 0 (2048,0) ⟨ht0.vg,by rw [ht0.fr];simp,fun _=>by simp⟩ ?_
 refine hcall dp _ ?_
 obtain⟨M2,e1,e2,e3,_⟩:=i.fronts
 rw [da (show dh (ob DX dp (U,(2048,f))::L)=dh (ob DX dp (U,(2048,f))::ob ba b s::M2) by show bu _ (dh L)=bu _ (dh (ob ba b s::M2));rw [e1])]
 have hK:∀t e,LC U s t e f→G w0 (ob ba b t::M2) (K (i64 e)):=fun t e h=>by have:=hK t e h;rw [da (e2 _)] at this;exact this
 rw [np]
 intro vp d err steps hd
 refine gz ?_
 by_cases e11:err=11
 ·refine UZ (eq_true e11) ?_
  refine rn (b:=vp) (s:=d) ?_
  refine ib (b:=b) (s:=s) ?_
  refine gz ?_
  have hr:=i7 (s:=s) (a:=d.need)
  exact(hK _ _ ⟨⟨hr.1.le (by omega),hr.2⟩,fun u=>(hg u).read.1,by rw [E9];omega⟩).sub
 by_cases e0:err=0
 ·refine UZ (an e11 (eq_true e0)) ?_
  refine G.okV (b:=vp) (s:=d) fun hv hl=>?_
  have hcl:=Fk hl
  have hfr:d.l.frees.length≤f:=hd.fr
  have hcw:=fun u=>Fg (hd.vg u).l
  refine pF (b:=vp) (s:=d) fun u hu=>?_
  refine nE (b:=b) (s:=s) (l:=d.l.cells) (by omega) ?_
  have hrf:=Md (s:=s) (l:=d.l.cells)
  have hvr:=pN (s:=s) (l:=d.l.cells)
  have hvg:=fun u=>(hg u).take (l:=d.l.cells) (hcw u)
  generalize gj s d.l.cells=t at hrf hvr hvg ⊢
  obtain⟨s2,er⟩:=t
  simp only at hrf hvr hvg ⊢
  by_cases h3:er=0
  ·refine UZ (eq_true h3) ?_
   refine CF (b:=vp) (s:=d) (by omega) fun u2 hu2=>?_
   refine gz ?_
   refine G.sub (L':=sl cd u2 d.l.frees::ob ba b s2::M2) ?_
   refine G.loop1 (σ:=Nat×fh) (fun z=>i64 z.1) (fun z=>sl cd u2 d.l.frees::ob ba b z.2::M2) (fun z=>z.1≤d.l.frees.length∧Vs s z.2 z.1∧(U→Vg z.2)∧z.2.l.r.f.length≤s.l.r.f.length+z.1) (fun z=>d.l.frees.length-z.1) (0,s2) rfl rfl ⟨by simp,hvr.1,hvg,by simp only;rw [hrf];omega⟩ ?_
   rintro⟨k,t⟩ ⟨hk,ht1,ht2,ht3⟩ J hJ
   simp only at hk ht1 ht2 ht3 hJ ⊢
   refine gz ?_
   refine G.cond (fun h=>?_) (fun h=>?_)
   ·have hk2:k<d.l.frees.length:=by simpa using h
    have e:=cW hk2
    refine gz ?_
    refine DR (b:=b) (s:=t) (by omega) ?_
    refine gz ?_
    rw [dt (by omega)]
    exact hJ (k+1,t.log (t.l.free d.l.frees[k])) ⟨hk2,ht1.trans OT,fun u=>(ht2 u).free,by show (t.l.free _).r.f.length≤_;simp only [jS.free,List.length_append,List.length_singleton];omega⟩ (by simp only;omega)
   ·simp only [decide_eq_false_iff_not] at h
    exact(hK t 0 ⟨.of (ht1.le (by omega)) (by decide),ht2,by omega⟩).sub
  ·refine UZ h3 ?_
   exact(hK s2 er ⟨⟨hvr.1.le (by omega),hvr.2⟩,hvg,by rw [hrf];omega⟩).sub
 ·refine UZ (an e11 e0) ?_
  exact(hK s err ⟨.of (Vs.refl.le (by omega)) e11,hg,by omega⟩).sub
end
end Go.Proofs.YtoealglbimbbmaaGreatDoor.S
