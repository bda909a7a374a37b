import Derived.Test.YtoealglbimbbmaaGreatDoorArena
namespace Go.Proofs.YtoealglbimbbmaaGreatDoor.S
open Go Go.Proofs
set_option linter.unusedVariables false
set_option linter.unusedSimpArgs false
def mf (n:Int):Prop:=0≤n∧n≤18446744073709551615
theorem Iq:mf 0:=⟨by decide,by decide⟩
def Cw (cs:List av):Prop:=∀c∈cs,mf c.word
def Qq (s:jl):Prop:=∀r∈s.r::s.up,Cw r.c
structure Vg (s:fa):Prop where
 k:Cw s.k
 l:Qq s.l
section
variable {cs l:List av}{a x n b c:Int}{s:fa}{t:jl}
theorem da {α:Type}{c:Prop} [Decidable c]{a b:α}{P:α→Prop}(h1:c→P a)(h2:¬c→P b):P (if c then a else b):=by
 by_cases h:c
 ·rw [if_pos h];exact h1 h
 ·rw [if_neg h];exact h2 h
theorem Fc:mf (wU n):=by
 unfold mf wU IntKind.wrap
 simp [IntKind.signed,IntKind.bits,IntKind.min,IntKind.max]
 omega
theorem Cw.nil:Cw []:=fun _ h=>by cases h
theorem Cw.cons (h1:mf x)(h2:Cw cs):Cw (⟨a,x⟩::cs):=fun c hc=>(List.mem_cons.1 hc).elim (fun e=>by rw [e];exact h1) (h2 c)
theorem Cw.put (hx:mf x):∀{cs:List av},Cw cs→Cw (hZ cs a x)
 | [],_=>Cw.cons hx .nil
 | c::cs,h=>by
  unfold hZ
  split
  ·exact .cons hx fun d hd=>h d (List.mem_cons_of_mem _ hd)
  ·exact fun d hd=>(List.mem_cons.1 hd).elim (fun e=>by rw [e];exact h c List.mem_cons_self) (Cw.put hx (cs:=cs) (fun e he=>h e (List.mem_cons_of_mem _ he)) d)
theorem Cw.puts:∀{l cs:List av},Cw cs→Cw l→Cw (iW cs l)
 | [],_,h,_=>h
 | c::l,cs,h,hl=>Cw.puts (l:=l) (cs:=hZ cs c.place c.word) (Cw.put (hl c List.mem_cons_self) h) fun d hd=>hl d (List.mem_cons_of_mem _ hd)
theorem Cw.look:∀{cs:List av},Cw cs→dD cs a=some x→mf x
 | [],_,e=>by cases e
 | c::cs,h,e=>by
  unfold dD at e
  split at e
  ·cases e;exact h c List.mem_cons_self
  ·exact Cw.look (cs:=cs) (fun d hd=>h d (List.mem_cons_of_mem _ hd)) e
theorem MZ:∀{l:List Lv},(∀r∈l,Cw r.c)→oy l a=some x→mf x
 | [],_,e=>by cases e
 | r::l,h,e=>by
  unfold oy at e
  split at e
  ·rename_i h1;cases e;exact(h r List.mem_cons_self).look h1
  ·exact MZ (l:=l) (fun d hd=>h d (List.mem_cons_of_mem _ hd)) e
theorem Vg.read (h:Vg s):Vg (cr s a).1∧mf (cr s a).2.1:=by
 unfold cr
 split
 ·split
  ·rename_i h1;exact⟨h,MZ h.l h1⟩
  ·split
   ·rename_i h1;exact⟨h,h.k.look h1⟩
   ·exact⟨⟨h.k,h.l⟩,Iq⟩
 ·exact⟨h,Iq⟩
theorem Qq.put (h:Qq t)(hx:mf x):Qq (t.put a x):=fun r hr=>by
 rcases List.mem_cons.1 hr with e | e
 ·rw [e];exact(h t.r List.mem_cons_self).put hx
 ·exact h r (List.mem_cons_of_mem _ e)
theorem Qq.puts:∀{l:List av}{t:jl},Qq t→Cw l→Qq (fK t l).1
 | [],_,h,_=>h
 | c::l,t,h,hl=>by
  unfold fK
  split
  ·exact Qq.puts (h.put (hl c List.mem_cons_self)) fun d hd=>hl d (List.mem_cons_of_mem _ hd)
  ·exact h
theorem Vg.take (h:Vg s)(hl:Cw l):Vg (fJ s l).1:=by
 unfold fJ
 split
 ·refine⟨h.k,?_⟩
  show Qq (lG s.l l).1
  unfold lG
  split
  ·exact h.l.puts hl
  ·exact h.l
 ·exact h
theorem Vg.write (h:Vg s)(hx:mf x):Vg (j4 s a x).1:=by
 unfold j4
 split
 ·refine⟨h.k,?_⟩
  show Qq (NG s.l a x).1
  unfold NG
  simp only
  split
  ·exact h.l.put hx
  ·exact h.l
 ·exact h
theorem Vg.know (h:Vg s)(hx:mf x):Vg (lL s a x).1:=by
 unfold lL
 split
 ·split
  ·exact h
  ·exact⟨fun c hc=>(List.mem_append.1 hc).elim (h.k c) fun e=>by rw [List.mem_singleton.1 e];exact hx,h.l⟩
 ·exact h
theorem Vg.free (h:Vg s):Vg (s.log (s.l.free n)):=⟨h.k,fun r hr=>by
 rcases List.mem_cons.1 hr with g | g
 ·rw [g];exact h.l s.l.r List.mem_cons_self
 ·exact h.l r (List.mem_cons_of_mem _ g)⟩
theorem Vg.again (h:Vg s):Vg (ql s c b).1:=by
 unfold ql
 have h1:=h.read (a:=gi b)
 have h2:=h1.1.take (l:=[⟨gE c,(cr s (gi b)).2.1⟩,⟨gi (gi b-1),wU (gi (c+8))⟩]) (.cons h1.2 (.cons Fc .nil))
 split
 ·exact h
 ·split
  ·split <;> exact h2
  ·exact h1.1
theorem Vg.grown (h:Vg s):Vg (pJ s c).1:=by
 unfold pJ
 have h1:=h.read (a:=5)
 have h2:=h1.1.take (l:=rK (cr s 5).2.1 c) (.cons Fc (.cons Fc .nil))
 split
 ·split
  ·exact h1.1
  ·split <;> exact h2
 ·exact h1.1
theorem Vg.alloc (h:Vg s):Vg (eF s n).1:=by
 unfold eF
 have h1:=h.read (a:=gE (gH n))
 split
 ·exact h
 ·split
  ·split
   ·exact h1.1.grown
   ·exact h1.1.again
  ·exact h1.1
theorem Vg.asked (h:Vg s):Vg (gj s b).1:=by
 unfold gj
 have h1:=h.read (a:=gi (b-1))
 split
 ·exact h
 ·split
  ·split <;> exact h1.1
  ·exact h1.1
theorem Vg.freed (h:Vg s):Vg (ig s b).1:=by
 unfold ig tw
 have h1:=h.asked (b:=b)
 generalize gj s b=q at h1 ⊢
 have h2:=h1.take (l:=[⟨gi (b-1),wU q.2.1⟩]) (.cons Fc .nil)
 split
 ·split
  ·split
   ·exact h2.free
   ·exact h2
  ·exact h1
 ·exact h1
theorem Vg.give (h:Vg s):Vg (gY s b).1:=by
 unfold gY sX
 have h1:=h.asked (b:=b)
 generalize gj s b=q at h1 ⊢
 have h2:=h1.read (a:=gE q.2.1)
 split
 ·split
  ·exact h1
  ·split
   ·exact h2.1.take (.cons h2.2 (.cons Fc .nil))
   ·exact h2.1
 ·exact h1
end
structure Ji (s:fa):Prop where
 ok:u4 s.l
 in_:∀r∈s.l.r::s.l.up,∀c∈r.c,c.place<s.size
def Nd (t:fa):Prop:=Kp t t.need=true∧dD t.k t.need=none
structure Vs (s t:fa)(d:Nat):Prop where
 k:t.k=s.k
 size:t.size=s.size
 ok:Ji s→Ji t
 fr:t.l.frees.length≤s.l.frees.length+d
def Vr (s:fa)(t:fa)(e:Int)(d:Nat):Prop:=Vs s t d∧(e=11→Nd t∧t.l.frees.length≤s.l.frees.length)
section
variable {s t u:fa}{d d2:Nat}{a x e n c:Int}{l:List av}
theorem Vs.refl:Vs s s 0:=⟨rfl,rfl,id,Nat.le_refl _⟩
theorem Vs.trans (h:Vs s t d)(g:Vs t u d2):Vs s u (d+d2):=⟨g.k.trans h.k,g.size.trans h.size,fun o=>g.ok (h.ok o),by have:=h.fr;have:=g.fr;omega⟩
theorem Vs.le (h:Vs s t d)(g:d≤d2):Vs s t d2:=⟨h.k,h.size,h.ok,by have:=h.fr;omega⟩
theorem Vr.of (h:Vs s t d)(he:e≠11):Vr s t e d:=⟨h,fun g=>absurd g he⟩
theorem Vr.trans (h:Vs s t 0)(g:Vr t u e d):Vr s u e d:=⟨by have:=h.trans g.1;rw [Nat.zero_add] at this;exact this,fun e=>⟨(g.2 e).1,by have:=(g.2 e).2;have:=h.fr;omega⟩⟩
theorem vd {s:jl}:s.frees.length=(gk s.up).length+s.r.f.length:=by
 unfold jl.frees
 rw [rL,List.length_append]
 have h1:∀l:List Lv,(gk l.reverse).length=(gk l).length:=fun l=>by
  unfold gk
  simp [List.length_flatMap,List.map_reverse,List.sum_reverse]
 rw [h1]
 simp [gk]
theorem jF {s:fa}{a:Int}:Vr s (cr s a).1 (cr s a).2.2 0:=by
 unfold cr
 split
 ·rename_i hv
  split
  ·exact .of .refl (by simp)
  ·split
   ·exact .of .refl (by simp)
   ·rename_i h2
    exact⟨⟨rfl,rfl,fun o=>⟨o.ok,o.in_⟩,Nat.le_refl _⟩,fun _=>⟨⟨hv,h2⟩,Nat.le_refl _⟩⟩
 ·exact .of .refl (by simp)
theorem M0 {s:jl}{a:Int}:jj s a≠11:=by unfold jj;split <;> (try split) <;> (try split) <;> decide
theorem Jz {cs:List av}{a x:Int}{z:av}(h:z∈hZ cs a x):z∈cs∨z=⟨a,x⟩:=by
 cases hi:iY cs a with
 | none=>rw [(i6 hi).1] at h;simpa using h
 | some k =>
  obtain⟨_,_,g,_⟩:=ll hi
  rw [g] at h
  exact List.mem_or_eq_of_mem_set h
theorem Ky {z:av}:∀{l cs:List av},z∈iW cs l→z∈cs∨∃c∈l,z.place=c.place
 | [],cs,h=>.inl h
 | c::l,cs,h=>by
  have h:z∈iW (hZ cs c.place c.word) l:=h
  rcases Ky h with g | ⟨y,hy,g⟩
  ·rcases Jz g with g | g
   ·exact .inl g
   ·exact .inr ⟨c,by simp,by rw [g]⟩
  ·exact .inr ⟨y,by simp [hy],g⟩
theorem Qf {s:fa}(ha:a<s.size)(h0:jj s.l a=0):Vs s (s.log (s.l.put a x)) 0 :=
 ⟨rfl,rfl,fun o=>⟨o.ok.put h0,fun r hr z hz=>by
  rcases List.mem_cons.1 hr with e | hr
  ·subst e
   rcases Jz hz with g | g
   ·exact o.in_ _ (by simp) z g
   ·rw [g];exact ha
  ·exact o.in_ r (List.mem_cons_of_mem _ hr) z hz⟩,by
  show (s.l.put a x).frees.length≤_
  rw [vd,vd];exact Nat.le_refl _⟩
theorem Et (h:Kp s a=true):1≤a∧a<s.size:=by unfold Kp at h;simpa using h
theorem Qj:Vr s (j4 s a x).1 (j4 s a x).2 0:=by
 unfold j4
 split
 ·rename_i hv
  refine .of ?_ M0
  show Vs s (s.log (if jj s.l a=0 then s.l.put a x else s.l)) 0
  split
  ·rename_i h0;exact Qf (Et hv).2 h0
  ·exact⟨rfl,rfl,fun o=>⟨o.ok,o.in_⟩,Nat.le_refl _⟩
 ·exact .of .refl (by simp)
theorem MX:∀{l:List av}{s:fa},(∀c∈l,c.place<s.size)→Vs s (s.log (fK s.l l).1) 0∧(fK s.l l).2≠11
 | [],s,_=>⟨⟨rfl,rfl,fun o=>⟨o.ok,o.in_⟩,Nat.le_refl _⟩,by simp [fK]⟩
 | c::l,s,h=>by
  unfold fK
  split
  ·rename_i h0
   have h1:=Qf (s:=s) (x:=c.word) (h c (by simp)) h0
   have h2:=MX (l:=l) (s:=s.log (s.l.put c.place c.word)) (fun y hy=>h y (by simp [hy]))
   exact⟨h1.trans h2.1,h2.2⟩
  ·exact⟨⟨rfl,rfl,fun o=>⟨o.ok,o.in_⟩,Nat.le_refl _⟩,M0⟩
theorem q8:Vr s (fJ s l).1 (fJ s l).2 0:=by
 unfold fJ
 split
 ·rename_i hv
  have hv:∀c∈l,c.place<s.size:=fun c hc=>(Et (List.all_eq_true.1 hv c hc)).2
  have h:=MX hv
  unfold lG
  split
  ·exact .of h.1 (by simp)
  ·exact .of ⟨rfl,rfl,fun o=>⟨o.ok,o.in_⟩,Nat.le_refl _⟩ h.2
 ·exact .of .refl (by simp)
theorem R0:Vs s (s.log (s.l.free n)) 1:=by
 refine⟨rfl,rfl,fun o=>⟨o.ok.free,fun r hr z hz=>?_⟩,?_⟩
 ·rcases List.mem_cons.1 hr with e | hr
  ·subst e;exact o.in_ s.l.r (by simp) z hz
  ·exact o.in_ r (List.mem_cons_of_mem _ hr) z hz
 ·simp only [vd,jl.free,List.length_append,List.length_singleton];omega
theorem Qk:Vr s (ql s c a).1 (ql s c a).2.2 0:=by
 unfold ql
 split
 ·exact .of .refl (by simp)
 ·split
  ·refine .trans (jF (a:=gi a)).1 ?_
   split
   ·exact .of q8.1 (by simp)
   ·exact q8
  ·exact jF
theorem Ql:Vr s (pJ s c).1 (pJ s c).2.2 0:=by
 unfold pJ
 split
 ·refine .trans (jF (a:=5)).1 ?_
  split
  ·exact .of .refl (by simp)
  ·split
   ·exact .of q8.1 (by simp)
   ·exact q8
 ·exact jF
theorem Ki:Vr s (eF s n).1 (eF s n).2.2 0:=by
 unfold eF
 split
 ·exact .of .refl (by simp)
 ·split
  ·refine .trans (jF (a:=gE (gH n))).1 ?_
   split
   ·exact Ql
   ·exact Qk
  ·exact jF
theorem wH:Vr s (gj s n).1 (gj s n).2.2.2 0:=by
 unfold gj
 split
 ·exact .of .refl (by simp)
 ·split
  ·split
   ·exact .of jF.1 (by simp)
   ·exact .of jF.1 (by simp)
  ·exact jF
theorem QH:Vr s (ig s n).1 (ig s n).2 1:=by
 unfold ig tw
 split
 ·refine .trans (wH (n:=n)).1 ?_
  split
  ·split
   ·exact .of (q8.1.trans R0) (by simp)
   ·exact⟨q8.1.le (by omega),q8.2⟩
  ·exact .of (Vs.refl.le (by omega)) (by simp)
 ·exact⟨wH.1.le (by omega),wH.2⟩
theorem Rz:Vr s (gY s n).1 (gY s n).2 0:=by
 unfold gY sX
 split
 ·refine .trans (wH (n:=n)).1 ?_
  split
  ·exact .of .refl (by simp)
  ·split
   ·exact .trans jF.1 q8
   ·exact jF
 ·exact wH
end
theorem Jr:∀{l:List av}{s:jl},(fK s l).1.r.f=s.r.f
 | [],s=>rfl
 | c::l,s=>by
  unfold fK
  split
  ·rw [Jr];rfl
  ·rfl
theorem Qo {s:fa}{l:List av}:(fJ s l).1.l.r.f=s.l.r.f:=by
 unfold fJ
 split
 ·show (lG s.l l).1.r.f=_
  unfold lG
  split
  ·exact Jr
  ·rfl
 ·rfl
theorem Me {s:fa}{a:Int}:(cr s a).1.l=s.l:=by
 unfold cr
 split
 ·split
  ·rfl
  ·split <;> rfl
 ·rfl
theorem Q2 {s:fa}{n:Int}:(gj s n).1.l=s.l:=by
 unfold gj
 split
 ·rfl
 ·split
  ·split <;> exact Me
  ·exact Me
theorem UP {s:jl}:s.r.f.length≤s.frees.length:=by rw [vd];omega
theorem w7:∀(m:Nat)(l:List Int),l.Nodup→(∀x∈l,0≤x∧x<m)→l.length≤m
 | 0,l,_,h=>by
  cases l with
  | nil=>simp
  | cons x l=>have:=h x (by simp);omega
 | m+1,l,hn,h=>by
  by_cases hm:(m:Int)∈l
  ·have h1:=w7 m (l.erase m) (hn.erase _) (fun x hx=>by
    have h2:=h x (List.mem_of_mem_erase hx)
    have h3:x≠m:=fun e=>by subst e;exact(List.Nodup.not_mem_erase hn) hx
    omega)
   rw [List.length_erase_of_mem hm] at h1
   omega
  ·have:=w7 m l hn (fun x hx=>by
    have h2:=h x hx
    have h3:x≠m:=fun e=>hm (e ▸ hx)
    omega)
   omega
theorem Jh.few {s:fa}(h:Jh s):s.k.length≤256:=by
 have:=w7 256 (s.k.map (·.place)) h.nodup (fun x hx=>by
  obtain⟨c,hc,rfl⟩:=List.mem_map.1 hx
  have h1:=h.places c hc
  have h2:=h.hi
  omega)
 simpa using this
section
variable {s:fa}{a x:Int}
theorem M9:(lL s a x).1.l=s.l:=by
 unfold lL
 split
 ·split <;> rfl
 ·rfl
theorem Qv {s:jl}(h:Qq s):Cw s.cells:=by
 unfold jl.cells
 have key:∀{l:List Lv} {cs:List av},(∀r∈l,Cw r.c)→Cw cs→Cw (l.foldl (fun out q=>iW q.c out) cs):=fun {l}=>by
  induction l with
  | nil=>intro cs _ h;exact h
  | cons q l ih=>intro cs h1 h2;exact ih (fun r hr=>h1 r (List.mem_cons_of_mem _ hr)) (Cw.puts (h1 q List.mem_cons_self) h2)
 exact key (fun r hr=>h r (List.mem_cons_of_mem _ hr)) (h s.r List.mem_cons_self)
end
section
variable {w0:bo}{L M:List bd}{K:KV}{F:World→Prop}{C:bd→List bd}{b:Nat}{s:fa}
theorem G.okV [i:au L cY b s C](h:Jh s→u4 s.l→G w0 L F):G w0 L F:=by
 by_cases hv:Jh s
 ·by_cases hl:u4 s.l
  ·exact h hv hl
  ·refine i.ro (F':=fun _=>True) (fun M _=>?_) (fun _ _=>trivial)
   rw [dK]
   intro vf vo lp _
   refine G.okL (b:=lp) (s:=s.l) fun hl2=>absurd hl2 hl
 ·refine i.ro (F':=fun _=>True) (fun M _=>?_) (fun _ _=>trivial)
  rw [dK]
  exact fun vf vo lp h=>absurd h.2.2 hv
end
end Go.Proofs.YtoealglbimbbmaaGreatDoor.S
