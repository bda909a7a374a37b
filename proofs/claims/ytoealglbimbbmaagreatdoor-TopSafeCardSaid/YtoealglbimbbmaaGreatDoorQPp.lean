import Derived.Test.YtoealglbimbbmaaGreatDoorQPn
namespace Go.Proofs.YtoealglbimbbmaaGreatDoor.S
open Go Go.Proofs
set_option linter.unusedVariables false
set_option linter.unusedSimpArgs false
theorem ES:∀{up:List Lv}{out:List av}{b:Int},zW out→(∀r∈up,zW r.c)→(∀c∈out,c.place<b)→(∀r∈up,∀c∈r.c,c.place<b)→zW (up.foldl (fun out q=>iW q.c out) out)∧(∀c∈up.foldl (fun out q=>iW q.c out) out,c.place<b)∧(up.foldl (fun out q=>iW q.c out) out).length≤dU up+out.length
 | [],out,b,h,_,g,_=>⟨h,g,by simp [dU]⟩
 | r::up,out,b,h,hu,g,gu=>by
  have h1:zW (iW r.c out):=(hu r (by simp)).puts h.places
  obtain⟨r1,r2,r3⟩:=ES (up:=up) h1 (fun q hq=>hu q (List.mem_cons_of_mem _ hq)) (b:=b) (fun c hc=>by
   rcases Ky hc with hc | ⟨d,hd,e⟩
   ·exact gu r (by simp) c hc
   ·rw [e];exact g d hd) (fun q hq=>gu q (List.mem_cons_of_mem _ hq))
  refine⟨r1,r2,?_⟩
  rw [eY]
  have:=(zy (l:=out) (cs:=r.c)).2
  simp only [List.foldl_cons]
  omega
theorem Ji.cells {s:fa}(h:Ji s):zW s.l.cells∧(∀c∈s.l.cells,c.place<s.size)∧s.l.cells.length≤96:=by
 obtain⟨r1,r2,r3⟩:=ES (up:=s.l.up) (out:=s.l.r.c) (b:=s.size) (h.ok.ok _ (by simp)) (fun r hr=>h.ok.ok r (List.mem_cons_of_mem _ hr)) (h.in_ _ (by simp)) (fun r hr=>h.in_ r (List.mem_cons_of_mem _ hr))
 refine⟨r1,r2,?_⟩
 have h1:=h.ok.len
 have h2:=h.ok.hi
 rw [eY] at h1
 have e:s.l.cells=s.l.up.foldl (fun out q=>iW q.c out) s.l.r.c:=rfl
 rw [e];omega
structure UR (s:fa)(g d:Nat)(R:Nat×fa×Int×Int):Prop where
 k:R.2.1.k=s.k
 size:R.2.1.size=s.size
 ok:Ji s→Ji R.2.1
 fin:R.2.2.1=1∨R.2.2.1=2∨R.2.2.1=4
 need:R.2.2.1=1→Nd R.2.1
 at_:R.1≤g+d
 fr:R.2.1.l.frees.length≤s.l.frees.length
theorem De:∀{l:List Int}{g:Nat}{s:fa},UR s g l.length (eU l g s)
 | [],g,s=>⟨rfl,rfl,id,.inr (.inl rfl),by simp [eU],by simp [eU],Nat.le_refl _⟩
 | b::l,g,s=>by
  have hv:=Rz (s:=s) (n:=b)
  unfold eU
  split
  ·obtain⟨r1,r2,r3,r4,r5,r6,r7⟩:=De (l:=l) (g:=g+1) (s:=(gY s b).1)
   have:=hv.1.fr
   exact⟨r1.trans hv.1.k,r2.trans hv.1.size,fun o=>r3 (hv.1.ok o),r4,r5,by simp only [List.length_cons];omega,by omega⟩
  ·split
   ·rename_i g2
    have:=hv.1.fr
    exact⟨hv.1.k,hv.1.size,hv.1.ok,.inl rfl,fun _=>(hv.2 g2).1,by simp,by simp only;omega⟩
   ·have:=hv.1.fr
    exact⟨hv.1.k,hv.1.size,hv.1.ok,.inr (.inr rfl),by simp,by simp,by simp only;omega⟩
abbrev ij (S:dr)(c:Int):Nat:=(eD c S.stripes S.wide).toNat
abbrev SY (l:List fG):List (Nat×Int):=l.map fun z=>(z.stripe.toNat,z.version)
def Bg:rG→Hx
 | .com c=>gN c
 | _=>tG
def bi.at_ (x:bi):Int:=if x.inn.wr=true then x.stamp-1 else x.stamp
structure gZ (S:dr)(n nl nw:Nat):Prop where
 hs:dj S=S
 nl:S.stripes=nl
 nw:S.words=nw
 n4:n≤4
structure Tw (S:dr)(n:Nat)(G:Gs)(x:bi)(f:fj):Prop where
 fin:f.pat.fin=0
 pl:f.place=x.v.need
 str:f.stripe=eD f.place S.stripes S.wide
 stamp:f.stamp=x.stamp
 st:f.state=0∨f.state=1∨f.state=2
 lock:f.state≠0→f.lock.held=false∧f.lock.owner=0∧0≤f.lock.version∧f.lock.version≤f.stamp∧f.lock.version≤(G.lk (ij S f.place)).version
 know:f.state=2→qY (ij S) n G f.place f.lock.version f.word
structure Tg (S:dr)(h0:Hp)(n:Nat)(G:Gs)(i:Nat)(x:bi)(e:ux):Prop where
 fin:e.pat.fin=0
 seen:e.seen=x.rd
 ok:Km e
 at_:e.loaded=true→x.stamp≤e.stamp∧e.stamp≤G.T∧∀j z,j<e.pos→e.seen[j]? = some z→ik (ij S) h0 n G i e.stamp x.v.k z.stripe.toNat z.version
 pos:e.loaded=false→e.pos=0
structure iN (S:dr)(h0:Hp)(n:Nat)(G:Gs)(nl nw i:Nat)(x:bi):Prop where
 me:x.me=i
 s:x.s=S
 st:0≤x.state∧x.state≤8
 vok:Ji x.v
 kok:Jh x.v
 vsz:x.v.size=nw
 rd:x.rd.length≤16∧∀z∈x.rd,0≤z.stripe∧z.stripe<nl
 blk:x.blocks.length≤100000∧x.given≤x.blocks.length
 run:x.state≤4→(∀r,x.run=some r→m7 r x.v)∧(x.run=none→x.v.l.frees.length≤1000)
 ends:(x.inn.isCom=true∨x.fin=2)→x.v.l.frees.length≤1000∧x.items.length≤16
 begun:x.begun=decide (2≤x.state)
 beg:2≤x.state→0≤x.beg∧x.beg≤x.stamp∧x.stamp≤G.T∧(x.inn.wr=true→x.beg<x.stamp)
 fin0:x.state≤6→x.fin=0
 fresh:x.state≤2→x.inn=.none∧x.v.k=[]∧x.rd=[]
 all:2≤x.state→qu (ij S) h0 n G i x.at_ (SY x.rd) x.v.k
 fet:x.state=3→Nd x.v∧∃f,x.inn=.fetch f∧Tw S n G x f
 ext:(x.state=4∨x.state=5)→(x.state=4→Nd x.v)∧∃e,x.inn=.ext e∧Tg S h0 n G i x e
 com:x.state=6→∃c,x.inn=.com c∧c.pat.fin=0
 isc:∀c,x.inn=.com c→lr (ij S) h0 n G nl nw i x.v.k c∧c.seen=x.rd∧c.cells=x.v.l.cells∧(c.writing=true→x.stamp=c.now+1)∧(c.writing=false→c.stamp=x.stamp)∧6≤x.state∧x.beg≤c.stamp
 out:7≤x.state→(x.fin=2∨x.fin=3∨x.fin=4∨x.fin=5)∧(x.inn.wr=true→x.fin=2)∧(x.fin=2→x.inn.wr=false→x.v.l.cells=[])∧∀c,x.inn=.com c→c.pat.fin≠0
section
variable {S:dr}{h0:Hp}{n me i nl nw:Nat}{G G':Gs}{m:fE}{L:pj}{X:Nat→Hx}{x:bi}{ρ:z6}
theorem gZ.lo (h:gZ S n nl nw):32≤nw∧nw≤256∧1≤nl∧nl≤16∧0≤S.fuel∧S.fuel≤400:=by
 have e:=h.hs
 have h1:=eI (n:=S.words) (show (32:Int)≤256 by decide)
 have h2:=eI (n:=S.stripes) (show (1:Int)≤16 by decide)
 have h3:=eI (n:=S.fuel) (show (0:Int)≤400 by decide)
 have e1:held S.words 32 256=S.words:=congrArg dr.words e
 have e2:held S.stripes 1 16=S.stripes:=congrArg dr.stripes e
 have e3:held S.fuel 0 400=S.fuel:=congrArg dr.fuel e
 rw [e1,h.nw] at h1
 rw [e2,h.nl] at h2
 rw [e3] at h3
 omega
theorem gZ.str (h:gZ S n nl nw){c:Int}(hc:0≤c∧c<nw):eD c S.stripes S.wide=((ij S c:Nat):Int)∧ij S c<nl:=by
 have hb:=eI (n:=S.stripes) (show (1:Int)≤16 by decide)
 have hw:=eI (n:=S.wide) (show (1:Int)≤16 by decide)
 have e2:held S.stripes 1 16=S.stripes:=congrArg dr.stripes h.hs
 have hlo:=h.lo
 have e:eD c S.stripes S.wide=(c.tdiv (held S.wide 1 16)).tmod (held S.stripes 1 16):=by
  unfold eD
  rw [if_neg (by omega),gh]
  ·have:=Int.tdiv_nonneg (a:=c) (b:=held S.wide 1 16) hc.1 (by omega);omega
  ·have h1:c.tdiv (held S.wide 1 16)≤c:=by
    rw [Int.tdiv_eq_ediv_of_nonneg hc.1];exact Int.ediv_le_self _ hc.1
   omega
 have h1:0≤eD c S.stripes S.wide:=by
  rw [e]
  exact Int.tmod_nonneg _ (Int.tdiv_nonneg hc.1 (by omega))
 have h2:eD c S.stripes S.wide<nl:=by
  rw [e]
  have:=Int.tmod_lt_of_pos (c.tdiv (held S.wide 1 16)) (show 0<held S.stripes 1 16 by omega)
  rw [e2] at this ⊢
  rw [h.nl] at this ⊢
  exact this
 have e3:((ij S c:Nat):Int)=eD c S.stripes S.wide:=Int.toNat_of_nonneg h1
 exact⟨e3.symm,by omega⟩
theorem iN.le (h:iN S h0 n G nl nw i x):2≤x.state→x.at_≤G.T:=fun g=>by
 have:=(h.beg g).2.2.1
 unfold bi.at_;split <;> omega
theorem iN.tr (h:iN S h0 n G nl nw i x)(hg:xh (ij S) h0 n me G G')(hm:me<n)(hne:i≠me):iN S h0 n G' nl nw i x:=by
 refine⟨h.me,h.s,h.st,h.vok,h.kok,h.vsz,h.rd,h.blk,h.run,h.ends,h.begun,fun g=>⟨(h.beg g).1,(h.beg g).2.1,Int.le_trans (h.beg g).2.2.1 hg.T,(h.beg g).2.2.2⟩,h.fin0,h.fresh,fun g=>⟨fun p hp=>hg.good hm hne (h.le g) ((h.all g).good p hp),(h.all g).in_⟩,fun g=>?_,fun g=>?_,h.com,fun c hc=>?_,h.out⟩
 ·obtain⟨h1,f,h2,h3⟩:=h.fet g
  exact⟨h1,f,h2,h3.fin,h3.pl,h3.str,h3.stamp,h3.st,fun g=>⟨(h3.lock g).1,(h3.lock g).2.1,(h3.lock g).2.2.1,(h3.lock g).2.2.2.1,Int.le_trans (h3.lock g).2.2.2.2 (hg.ver hm)⟩,fun g=>hg.know hm (h3.know g)⟩
 ·obtain⟨h1,e,h2,h3⟩:=h.ext g
  exact⟨h1,e,h2,h3.fin,h3.seen,h3.ok,fun g=>⟨(h3.at_ g).1,Int.le_trans (h3.at_ g).2.1 hg.T,fun j z hj hz=>hg.good hm hne (h3.at_ g).2.1 ((h3.at_ g).2.2 j z hj hz)⟩,h3.pos⟩
 ·obtain⟨h1,h2⟩:=h.isc c hc
  exact⟨h1.tr hg hm hne,h2⟩
end
structure BI (S:dr)(h0:Hp)(n:Nat)(G:Gs)(nl nw i:Nat)(x:bi):Prop where
 me:x.me=i
 s:x.s=S
 vok:Ji x.v
 kok:Jh x.v
 vsz:x.v.size=nw
 rd:x.rd.length≤16∧∀z∈x.rd,0≤z.stripe∧z.stripe<nl
 blk:x.blocks.length≤100000∧x.given≤x.blocks.length
 begun:x.begun=true
 beg:0≤x.beg∧x.beg≤x.stamp∧x.stamp≤G.T
 all:qu (ij S) h0 n G i x.stamp (SY x.rd) x.v.k
 fin:x.fin=0
def DK (x:bi):Prop:=(∀r,x.run=some r→m7 r x.v)∧(x.run=none→x.v.l.frees.length≤1000)
section
variable {S:dr}{h0:Hp}{n me i nl nw:Nat}{G G':Gs}{m:fE}{L:pj}{X:Nat→Hx}{x:bi}{ρ:z6}
theorem Ge {a:rG}(h:a.isCom=false):a.wr=false∧Bg a=tG:=by
 cases a <;> first | exact⟨rfl,rfl⟩ | cases h
structure TT (x:bi)(q:bi×Int×Int):Prop where
 eq:{ q.1 with run:=x.run,given:=x.given,v:=x.v }=x
 k:q.1.v.k=x.v.k
 size:q.1.v.size=x.v.size
 ok:Ji q.1.v
 fin:q.2.1=1∨q.2.1=2∨q.2.1=3∨q.2.1=4
 need:q.2.1=1→Nd q.1.v∧∀r,q.1.run=some r→m7 r q.1.v
 frees:q.2.1=2→q.1.v.l.frees.length≤1000∧q.1.items.length≤16
 nofr:q.1.run=none→q.1.v.l.frees.length≤1000
 given:q.1.given≤x.blocks.length
 isr:q.1.run.isSome=x.run.isSome
theorem Tc (hρ:cx ρ)(h:BI S h0 n G nl nw i x)(hR:DK x)(hcom:x.inn.isCom=false):TT x (fy ρ x)∧Fd x:=by
 cases hr:x.run with
 | none =>
  have e:fy ρ x=({ x with given:=(eU (x.blocks.drop x.given) x.given x.v).1,v:=(eU (x.blocks.drop x.given) x.given x.v).2.1 },(eU (x.blocks.drop x.given) x.given x.v).2.2.1,(eU (x.blocks.drop x.given) x.given x.v).2.2.2):=by unfold fy;rw [hr]
  have hg:=De (l:=x.blocks.drop x.given) (g:=x.given) (s:=x.v)
  have hd:TT x (fy ρ x):=by
   rw [e]
   refine⟨rfl,hg.k,hg.size,hg.ok h.vok,by rcases hg.fin with g | g | g <;> simp [g],fun g=>⟨hg.need g,fun r g2=>?_⟩,fun _=>⟨?_,?_⟩,fun _=>?_,?_,by rw [hr]⟩
   ·simp [hr] at g2
   ·have:=hg.fr;have:=hR.2 hr;simp only;omega
   ·show (bi.items _).length≤16
    unfold bi.items;simp [hr]
   ·have:=hg.fr;have:=hR.2 hr;simp only;omega
   ·have:=hg.at_;have:=h.blk.2;simp only [List.length_drop] at this ⊢;simp only [List.length_drop] at *;omega
  refine⟨hd,fun r g=>(by rw [hr] at g;cases g),⟨by have:=h.blk;omega,h.blk.2⟩,hcom,by have:=h.rd.1;omega,h.vok⟩
 | some r =>
  have a2:=hρ.q r x.v (hR.1 r hr)
  have e:fy ρ x=({ x with run:=some (ρ r x.v).1,v:=(ρ r x.v).2.1 },(ρ r x.v).2.2,(ρ r x.v).1.err):=by unfold fy;rw [hr]
  have hd:TT x (fy ρ x):=by
   rw [e]
   refine⟨rfl,a2.k,a2.size,a2.ok h.vok,a2.fin,fun g=>⟨(a2.need g).1,fun r g2=>?_⟩,fun _=>⟨a2.frees,a2.few⟩,fun g=>(by cases g),h.blk.2,by rw [hr];rfl⟩
   cases g2;exact(a2.need g).2
  exact⟨hd,fun r' g=>hR.1 r' g,⟨by have:=h.blk;omega,h.blk.2⟩,hcom,by have:=h.rd.1;omega,h.vok⟩
theorem Lt {cs:List av}{y:av}{a w:Int}(hy:y∈cs){k:Nat}(h:eD y.place a w=k)(hk:k<16):(k:Int)∈fB (dp cs a w) 16:=by
 rw [yF]
 refine⟨k,hk,?_,rfl⟩
 simp only [dp,fq,List.contains_iff_mem,List.mem_filter,List.mem_map,decide_eq_true_eq]
 exact⟨⟨y,hy,h⟩,by omega⟩
theorem Q0 (hS:gZ S n nl nw)(hme:x.me=i)(hs:x.s=S)(hvok:Ji x.v)(hvsz:x.v.size=nw)(hrd:x.rd.length≤16∧∀z∈x.rd,0≤z.stripe∧z.stripe<nl)(hbeg:0≤x.stamp∧x.stamp≤G.T)(hall:qu (ij S) h0 n G i x.stamp (SY x.rd) x.v.k)(hc:x.v.l.cells≠[]):lr (ij S) h0 n G nl nw i x.v.k (nq x.me x.s.spins x.stamp x.rd x.v.l.cells (fB (dp x.v.l.cells x.s.stripes x.s.wide) 16))∧gN (nq x.me x.s.spins x.stamp x.rd x.v.l.cells (fB (dp x.v.l.cells x.s.stripes x.s.wide) 16))=tG:=by
 obtain⟨c1,c2,c3⟩:=hvok.cells
 have hlo:=hS.lo
 have hok:=N7 (me:=x.me) (sp:=x.s.spins) (stamp:=x.stamp) (n:=x.s.stripes) (wide:=x.s.wide) (seen:=x.rd) (cells:=x.v.l.cells) (by have:=hrd.1;omega) (by omega)
 have hin:∀y∈x.v.l.cells,1≤y.place∧y.place<nw:=fun y hy=>by
  have h1:=c1.places y hy
  have h2:=c2 y hy
  rw [hvsz] at h2
  unfold uA at h1
  simp at h1
  exact⟨h1.1,h2⟩
 have hst:∀s∈fB (dp x.v.l.cells x.s.stripes x.s.wide) 16,0≤s∧s<nl:=fun s hs1=>by
  obtain⟨j,_,g,rfl⟩:=yF.1 hs1
  simp only [dp,fq,List.contains_iff_mem,List.mem_filter,List.mem_map,decide_eq_true_eq] at g
  obtain⟨⟨y,hy,e⟩,_⟩:=g
  have:=hin y hy
  rw [hs] at e
  obtain⟨e2,e3⟩:=hS.str (c:=y.place) ⟨by omega,this.2⟩
  omega
 have hcov:∀y∈x.v.l.cells,((ij S y.place:Nat):Int)∈fB (dp x.v.l.cells x.s.stripes x.s.wide) 16:=fun y hy=>by
  have:=hin y hy
  obtain⟨e2,e3⟩:=hS.str (c:=y.place) ⟨by omega,this.2⟩
  exact Lt hy (by rw [hs];exact e2) (by omega)
 revert hok
 unfold nq iE
 intro hok
 have hfin:(mV x.me x.s.spins).fin=0:=rfl
 generalize mV x.me x.s.spins=P at hok hfin ⊢
 have hs2:∀{a:Nat},(if (0:Nat)=a then (2:Int) else 0)=0∨(if (0:Nat)=a then (2:Int) else 0)=2:=by intro a;split <;> simp
 have hs3:=hs2 (a:=(fB (dp x.v.l.cells x.s.stripes x.s.wide) 16).length)
 simp only [List.length_nil] at hok ⊢
 generalize (if (0:Nat)=(fB (dp x.v.l.cells x.s.stripes x.s.wide) 16).length then (2:Int) else 0)=q at hok hs3 ⊢
 refine⟨⟨hok,hme,hst,hrd.2,by simp,hcov,c1.nodup,hin,hc,.inl hfin,?_,fun _ g=>?_,fun _ g=>?_,fun _ g=>?_,hbeg,fun g=>?_,fun _ z hz=>hall.good _ (List.mem_map.2 ⟨z,hz,rfl⟩),fun _ g=>?_,fun g=>(by cases g)⟩,?_⟩
 ·simp [hfin];omega
 ·simp only at g;omega
 ·simp only at g;omega
 ·simp only at g;omega
 ·simp at g;omega
 ·simp only at g;omega
 ·unfold gN EW
  simp only [hfin]
  rcases hs3 with g | g <;> simp [g]
structure Qe (S:dr)(h0:Hp)(n:Nat)(G:Gs)(nl nw i:Nat)(x x':bi):Prop where
 inv:iN S h0 n G nl nw i x'
 hx:Bg x'.inn=tG
 wr:x'.inn.wr=false
 beg:x'.beg=x.beg
 st:3≤x'.state∧x'.state≤7
 isr:x'.run.isSome=x.run.isSome
theorem BI.fet (h:BI S h0 n G nl nw i x)(hn:Nd x.v)(hR:DK x){f:fj}(hf:Tw S n G x f):iN S h0 n G nl nw i { x with inn:=.fetch f,state:=3 } :=
 ⟨h.me,h.s,⟨by simp,by simp⟩,h.vok,h.kok,h.vsz,h.rd,h.blk,fun _=>hR,fun g=>(by simp [rG.isCom,h.fin] at g),h.begun,fun _=>⟨h.beg.1,h.beg.2.1,h.beg.2.2,fun g=>(by cases g)⟩,fun _=>h.fin,fun g=>(by simp at g),fun _=>h.all,fun _=>⟨hn,f,rfl,hf.fin,hf.pl,hf.str,hf.stamp,hf.st,hf.lock,hf.know⟩,fun g=>(by simp at g),fun g=>(by simp at g),fun c hc=>(by cases hc),fun g=>(by simp at g)⟩
theorem BI.ask (h:BI S h0 n G nl nw i x)(hn:Nd x.v)(hR:DK x):iN S h0 n G nl nw i (qt x x.v.need) :=
 h.fet hn hR ⟨rfl,rfl,(by show eD _ x.s.stripes x.s.wide=_;rw [h.s];rfl),rfl,.inl rfl,fun g=>absurd rfl g,fun g=>(by cases g)⟩
theorem BI.ext (h:BI S h0 n G nl nw i x){st:Int}(hs:(st=4∧Nd x.v∧DK x)∨st=5){e:ux}(he:Tg S h0 n G i x e):iN S h0 n G nl nw i { x with inn:=.ext e,state:=st } :=
 ⟨h.me,h.s,⟨by simp only;omega,by simp only;omega⟩,h.vok,h.kok,h.vsz,h.rd,h.blk,fun g=>(by rcases hs with g2 | g2;exact g2.2.2;simp only at g;omega),fun g=>(by simp [rG.isCom,h.fin] at g),(by show x.begun=_;rw [h.begun];simp;omega),fun _=>⟨h.beg.1,h.beg.2.1,h.beg.2.2,fun g=>(by cases g)⟩,fun _=>h.fin,fun g=>(by simp only at g;omega),fun _=>h.all,fun g=>(by simp only at g;omega),fun _=>⟨fun g=>(by rcases hs with g2 | g2;exact g2.2.1;simp only at g;omega),e,rfl,he.fin,he.seen,he.ok,he.at_,he.pos⟩,fun g=>(by simp only at g;omega),fun c hc=>(by cases hc),fun g=>(by simp only at g;omega)⟩
theorem BI.later (h:BI S h0 n G nl nw i x){st:Int}(hs:(st=4∧Nd x.v∧DK x)∨st=5):iN S h0 n G nl nw i (rS x st) :=
 h.ext hs ⟨rfl,rfl,fun _ g=>(by cases g),fun g=>(by cases g),fun _=>rfl⟩
theorem BI.out (h:BI S h0 n G nl nw i x)(hc:x.inn.isCom=false){E er b:Int}(hE:E=2∨E=3∨E=4∨E=5)(h2:E=2→x.v.l.cells=[]∧x.v.l.frees.length≤1000∧x.items.length≤16):iN S h0 n G nl nw i (fi x E er b):=by
 obtain⟨w1,w2⟩:=Ge hc
 have ei:(fi x E er b).inn=x.inn:=rfl
 refine⟨h.me,h.s,⟨by simp,by simp⟩,h.vok,h.kok,h.vsz,h.rd,h.blk,fun g=>(by simp at g),fun g=>?_,h.begun,fun _=>⟨h.beg.1,h.beg.2.1,h.beg.2.2,fun g=>(by rw [ei,w1] at g;cases g)⟩,fun g=>(by simp at g),fun g=>(by simp at g),fun _=>?_,fun g=>(by simp at g),fun g=>(by simp at g),fun g=>(by simp at g),fun c g=>(by rw [ei] at g;rw [g] at hc;cases hc),fun _=>⟨hE,fun g=>(by rw [ei,w1] at g;cases g),fun g _=>(h2 g).1,fun c g=>(by rw [ei] at g;rw [g] at hc;cases hc)⟩⟩
 ·rcases g with g | g
  ·rw [ei,hc] at g;cases g
  ·exact(h2 g).2
 ·have e:bi.at_ (fi x E er b)=x.stamp:=by unfold bi.at_;rw [ei,w1];rfl
  rw [e];exact h.all
theorem iN.toB (h:iN S h0 n G nl nw i x)(h1:2≤x.state)(h2:x.state≤6)(hw:x.inn.wr=false):BI S h0 n G nl nw i x:=by
 have hb:=h.beg h1
 have ha:=h.all h1
 have e:x.at_=x.stamp:=by unfold bi.at_;rw [hw];rfl
 rw [e] at ha
 exact⟨h.me,h.s,h.vok,h.kok,h.vsz,h.rd,h.blk,by rw [h.begun];simp [h1],⟨hb.1,hb.2.1,hb.2.2.1⟩,ha,h.fin0 h2⟩
theorem HZ (hρ:cx ρ)(hS:gZ S n nl nw)(h:BI S h0 n G nl nw i x)(hR:DK x)(hcom0:x.inn.isCom=false):Fd x∧Qe S h0 n G nl nw i x (fh ρ x):=by
 obtain⟨hd,hw⟩:=Tc hρ h hR hcom0
 refine⟨hw,?_⟩
 unfold fh
 generalize fy ρ x=q at hd
 obtain⟨y,e,er⟩:=q
 obtain⟨d1,d2,d3,d4,d5,d6,d7,d8,d9,d10⟩:=hd
 simp only at d1 d2 d3 d4 d5 d6 d7 d8 d9 d10
 have e_me:y.me=x.me:=by have:=congrArg bi.me d1;exact this
 have e_s:y.s=x.s:=by have:=congrArg bi.s d1;exact this
 have e_bl:y.blocks=x.blocks:=by have:=congrArg bi.blocks d1;exact this
 have e_rd:y.rd=x.rd:=by have:=congrArg bi.rd d1;exact this
 have e_st:y.state=x.state:=by have:=congrArg bi.state d1;exact this
 have e_in:y.inn=x.inn:=by have:=congrArg bi.inn d1;exact this
 have e_be:y.begun=x.begun:=by have:=congrArg bi.begun d1;exact this
 have e_bg:y.beg=x.beg:=by have:=congrArg bi.beg d1;exact this
 have e_sp:y.stamp=x.stamp:=by have:=congrArg bi.stamp d1;exact this
 have e_fi:y.fin=x.fin:=by have:=congrArg bi.fin d1;exact this
 have hcom:y.inn.isCom=false:=by rw [e_in];exact hcom0
 have hB:BI S h0 n G nl nw i y:=⟨e_me.trans h.me,e_s.trans h.s,d4,⟨by rw [d3];exact h.kok.lo,by rw [d3];exact h.kok.hi,by rw [d2,d3];exact h.kok.places,by rw [d2];exact h.kok.nodup⟩,d3.trans h.vsz,by rw [e_rd];exact h.rd,by rw [e_bl];exact⟨h.blk.1,d9⟩,e_be.trans h.begun,by rw [e_bg,e_sp];exact h.beg,by rw [e_sp,e_rd,d2];exact h.all,e_fi.trans h.fin⟩
 unfold jr
 simp only
 split
 ·rename_i g
  obtain⟨n1,n2⟩:=d6 g
  exact⟨hB.ask n1 ⟨n2,d8⟩,rfl,rfl,e_bg,⟨by simp,by simp⟩,d10⟩
 ·split
  ·exact⟨BI.later (x:={ y with blocking:=true }) ⟨hB.me,hB.s,hB.vok,hB.kok,hB.vsz,hB.rd,hB.blk,hB.begun,hB.beg,hB.all,hB.fin⟩ (.inr rfl),rfl,rfl,e_bg,⟨by simp,by simp⟩,d10⟩
  ·obtain⟨w1,w2⟩:=Ge hcom
   split
   ·exact⟨hB.out hcom (by simp) (fun g=>(by cases g)),w2,w1,e_bg,⟨by simp,by simp⟩,d10⟩
   ·have e2:e=2:=by omega
    split
    ·rename_i g
     exact⟨hB.out hcom (by simp) (fun _=>⟨g,d7 e2⟩),w2,w1,e_bg,⟨by simp,by simp⟩,d10⟩
    ·rename_i g
     obtain⟨hme,hs,_,hkok,hvsz,hrd,hbl,hbegun,hbeg,hall,hfin⟩:=hB
     obtain⟨k1,k2⟩:=Q0 (x:=y) hS hme hs d4 hvsz hrd ⟨by omega,hbeg.2.2⟩ hall g
     have e1:(nq y.me y.s.spins y.stamp y.rd y.v.l.cells (fB (dp y.v.l.cells y.s.stripes y.s.wide) 16)).pat.fin=0∧(nq y.me y.s.spins y.stamp y.rd y.v.l.cells (fB (dp y.v.l.cells y.s.stripes y.s.wide) 16)).seen=y.rd∧(nq y.me y.s.spins y.stamp y.rd y.v.l.cells (fB (dp y.v.l.cells y.s.stripes y.s.wide) 16)).cells=y.v.l.cells∧(nq y.me y.s.spins y.stamp y.rd y.v.l.cells (fB (dp y.v.l.cells y.s.stripes y.s.wide) 16)).writing=false∧(nq y.me y.s.spins y.stamp y.rd y.v.l.cells (fB (dp y.v.l.cells y.s.stripes y.s.wide) 16)).stamp=y.stamp:=⟨rfl,rfl,rfl,rfl,rfl⟩
     generalize nq y.me y.s.spins y.stamp y.rd y.v.l.cells (fB (dp y.v.l.cells y.s.stripes y.s.wide) 16)=c at k1 k2 e1
     obtain⟨p1,p2,p3,p4,p5⟩:=e1
     have hwr:(rG.com c).wr=false:=by simp [p4,p1]
     refine⟨⟨hme,hs,⟨by simp,by simp⟩,d4,hkok,hvsz,hrd,hbl,fun g=>by simp at g,fun _=>d7 e2,by show y.begun=_;rw [hbegun];rfl,fun _=>⟨hbeg.1,hbeg.2.1,hbeg.2.2,fun g=>(by simp only [hwr] at g;cases g)⟩,fun _=>hfin,fun g=>by simp at g,fun _=>?_,fun g=>by simp at g,fun g=>by simp at g,fun _=>⟨c,rfl,p1⟩,fun c' hc'=>?_,fun g=>by simp at g⟩,k2,hwr,e_bg,⟨by simp,by simp⟩,d10⟩
     ·have e:bi.at_ { y with inn:=.com c,state:=6 }=y.stamp:=by unfold bi.at_;rw [if_neg (by simp only [hwr];decide)]
      rw [e];exact hall
     ·cases hc'
      exact⟨k1,p2,p3,fun g=>(by rw [p4] at g;cases g),fun _=>p5,by simp,by rw [p5];exact hbeg.2.1⟩
end
def Vb (L L':pj)(x x':bi):Prop:=(L'=L∧x'.inn.wr=x.inn.wr∧(x.inn.wr=true→x'.stamp=x.stamp∧x'.v=x.v))∨(L'=rz x'.stamp x'.v.l.cells L∧x.inn.wr=false∧x'.inn.wr=true∧(∀y∈L,y.1≠x'.stamp)∧x.begun=true)
structure nG (S:dr)(h0:Hp)(n:Nat)(m:fE)(L:pj)(X:Nat→Hx)(i:Nat)(x x':bi)(m':fE)(L':pj):Prop where
 to:xh (ij S) h0 n i (dI m L X) (dI m' L' (cu X i (Bg x'.inn)))
 inv:iN S h0 n (dI m' L' (cu X i (Bg x'.inn))) m.l.length m.w.length i x'
 log:Vb L L' x x'
 beg:(x.begun=true→x'.begun=true∧x'.beg=x.beg)∧(x.begun=false→x'.begun=true→x'.beg=m.n∧x'.state=2)
 isr:x'.run.isSome=x.run.isSome
section
variable {S:dr}{h0:Hp}{n me i nl nw:Nat}{G G':Gs}{m m':fE}{L:pj}{X:Nat→Hx}{x x':bi}{ρ:z6}
theorem Sw {a:Hx}(hX:X i=a)(hm:dI m' L X=dI m L X):dI m' L (cu X i a)=dI m L X:=by
 rw [←hm]
 exact Gs.ext' (fun _=>rfl) (fun _=>rfl) rfl rfl fun k=>GR hX k
theorem nG.quiet (hX:X i=Bg x.inn)(hm:dI m' L X=dI m L X)(hx:Bg x'.inn=Bg x.inn)(hw:x'.inn.wr=x.inn.wr∧(x.inn.wr=true→x'.stamp=x.stamp∧x'.v=x.v))(hb:(x.begun=true→x'.begun=true∧x'.beg=x.beg)∧(x.begun=false→x'.begun=true→x'.beg=m.n∧x'.state=2))(h:iN S h0 n (dI m L X) m.l.length m.w.length i x')(hr:x'.run.isSome=x.run.isSome):nG S h0 n m L X i x x' m' L:=by
 have e:dI m' L (cu X i (Bg x'.inn))=dI m L X:=Sw (by rw [hX,hx]) hm
 exact⟨by rw [e];exact .refl,by rw [e];exact h,.inl ⟨rfl,hw⟩,hb,hr⟩
theorem C4 {y:bi}(h:y.inn.wr=false):fM y=y:=by
 show (if y.wr=true then _ else y)=y
 rw [if_neg (by show ¬((!decide (y.state=8)) && y.inn.wr)=true;rw [h];simp)]
theorem JU {a w:Int}{u v:cX}{o:Int}(h:0≤a∧a<m.s.length):∃c,ay m ⟨9,a,o,w,u,v⟩=({ m with s:=m.s.set a.toNat w,count:=c },iH):=by
 have:i4 a m.s.length=true:=by unfold i4;simp [h]
 exact⟨_,by unfold ay bz;simp [this,iH];rfl⟩
theorem Rx {a w o:Int}{u v:cX}(h:1≤a∧a<m.w.length):∃c,ay m ⟨1,a,o,w,u,v⟩=({ m with count:=c },⟨m.w.getD a.toNat 0,ae,false,0⟩) :=
 ⟨_,by unfold ay bz iG;simp [h];rfl⟩
theorem GS {p:nU}{o:Int}(h:p.fin=0):(p.waits o).1.fin=0:=by unfold nU.waits;split <;> exact h
theorem KL {l:List fG}{k v:Int}(h:mb l k=some v):(⟨k,v⟩:fG)∈l:=by
 unfold mb at h
 rw [Option.map_eq_some_iff] at h
 obtain⟨z,hz,e⟩:=h
 have h1:=List.find?_some hz
 have h2:=List.mem_of_find?_eq_some hz
 simp only [decide_eq_true_eq] at h1
 obtain⟨a,b⟩:=z
 simp only at h1 e
 subst h1;subst e
 exact h2
theorem S4 {l:List fG}{z:fG}(h:l7 16 l z=0)(hl:l.length≤16):(∀y,y∈ny 16 l z↔y∈l∨y=z)∧(ny 16 l z).length≤16:=by
 unfold l7 at h
 unfold ny
 split at h
 ·cases h
 ·rename_i g
  rw [if_neg g]
  cases hs:mb l z.stripe with
  | some v =>
   rw [hs] at h
   simp only at h
   split at h
   ·rename_i e
    have:=KL hs
    refine⟨fun y=>⟨fun g=>.inl g,fun g=>?_⟩,hl⟩
    rcases g with g | rfl
    ·exact g
    ·rw [e] at this;exact this
   ·cases h
  | none =>
   rw [hs] at h
   simp only at h ⊢
   split at h
   ·cases h
   ·rename_i g
    rw [if_neg g]
    refine⟨fun y=>by simp,?_⟩
    have g:¬(l.length:Int)=16:=g
    simp only [List.length_append,List.length_singleton];omega
theorem TK {s:fa}{c y:Int}(h:Kp s c=true∧dD s.k c=none)(hk:Jh s):(lL s c y).1=⟨s.size,s.k++[⟨c,y⟩],s.l,s.need⟩∧Jh (lL s c y).1:=by
 have e:(lL s c y).1=⟨s.size,s.k++[⟨c,y⟩],s.l,s.need⟩:=by unfold lL;rw [if_pos h.1,h.2]
 rw [e]
 have hi:=Et h.1
 refine⟨rfl,hk.lo,hk.hi,fun z hz=>?_,?_⟩
 ·rcases List.mem_append.1 hz with hz | hz
  ·exact hk.places z hz
  ·rw [List.mem_singleton.1 hz];exact hi
 ·have h2:∀(l:List av),dD l c=none→c ∉ l.map (·.place):=by
   intro l
   induction l with
   | nil=>intro _;simp
   | cons z l ih =>
    intro g
    unfold dD at g
    split at g
    ·cases g
    ·rename_i g2
     simp only [List.map_cons,List.mem_cons,not_or]
     exact⟨fun e=>g2 e.symm,ih g⟩
  rw [List.map_append]
  refine List.nodup_append.2 ⟨hk.nodup,by simp,fun a ha b hb=>?_⟩
  simp at hb
  subst hb
  rintro rfl
  exact h2 s.k h.2 ha
theorem LQ (hρ:cx ρ)(hS:gZ S n nl nw)(hi:fx (ij S) h0 n G)(h:BI S h0 n G nl nw i x)(hR:DK x)(hn:Nd x.v){f:fj}(hx:x.inn=.fetch f)(hfin:f.pat.fin=6∨(f.pat.fin=2∧G.lk (ij S f.place)=f.lock∧f.lock.held=false∧f.lock.owner=0∧f.lock.version≤x.stamp∧qY (ij S) n G f.place f.lock.version f.word))(hp:f.place=x.v.need)(hs:f.stripe=eD f.place S.stripes S.wide) :
  Jm x f∧Qe S h0 n G nl nw i x (cy ρ x f):=by
 have hcom:x.inn.isCom=false:=by rw [hx]
 have hrd:=h.rd
 have hk:=h.kok.few
 have hplace:=Et hn.1
 rw [h.vsz] at hplace
 obtain⟨hs1,hs2⟩:=hS.str (c:=f.place) ⟨by omega,by omega⟩
 rcases hfin with f6 | ⟨f2,l1,l2,l3,l4,hkn⟩
 ·refine⟨⟨.inl f6,by omega,by omega,fun g=>by omega⟩,?_⟩
  unfold cy
  rw [if_pos f6]
  exact⟨h.later (.inl ⟨rfl,hn,hR⟩),rfl,rfl,rfl,⟨by simp,by simp⟩,rfl⟩
 ·have hlk:G.lk (ij S f.place)=⟨f.lock.version,false,0⟩:=by
   rw [l1];generalize f.lock=l at l2 l3;obtain⟨a,b,c⟩:=l;simp only at l2 l3;rw [l2,l3]
  have hw:l7 16 x.rd ⟨f.stripe,f.lock.version⟩=0→BI S h0 n G nl nw i (kE x f)∧DK (kE x f):=fun g=>by
   obtain⟨a1,a2⟩:=S4 g h.rd.1
   obtain⟨k1,k2⟩:=TK (y:=f.word) hn h.kok
   have hv:(kE x f).v=⟨x.v.size,x.v.k++[⟨x.v.need,f.word⟩],x.v.l,x.v.need⟩:=k1
   have hrun:DK (kE x f):=by
    refine⟨fun r hr=>?_,fun g=>?_⟩
    ·rw [hv];exact(hR.1 r hr).lv rfl
    ·rw [hv];exact hR.2 g
   refine⟨⟨h.me,h.s,?_,k2,?_,⟨a2,fun z hz=>?_⟩,h.blk,h.begun,h.beg,?_,h.fin⟩,hrun⟩
   ·rw [hv];exact⟨h.vok.ok,h.vok.in_⟩
   ·rw [hv];exact h.vsz
   ·rcases(a1 z).1 hz with hz | rfl
    ·exact h.rd.2 z hz
    ·simp only;rw [hs,hs1];omega
   ·rw [hv]
    show qu (ij S) h0 n G i x.stamp (SY (ny 16 x.rd ⟨f.stripe,f.lock.version⟩)) (x.v.k++[⟨x.v.need,f.word⟩])
    rw [←hp]
    refine qu.add (rd:=SY x.rd) hi h.all hkn hlk l4 h.beg.2.2 fun p=>?_
    unfold SY
    rw [List.mem_map,List.mem_map]
    have e0:f.stripe.toNat=ij S f.place:=by rw [hs]
    constructor
    ·rintro⟨z,hz,rfl⟩
     rcases(a1 z).1 hz with hz | rfl
     ·exact .inl ⟨z,hz,rfl⟩
     ·exact .inr (by rw [←e0])
    ·rintro(⟨z,hz,rfl⟩ | rfl)
     ·exact⟨z,(a1 z).2 (.inl hz),rfl⟩
     ·exact⟨_,(a1 _).2 (.inr rfl),by rw [←e0]⟩
  refine⟨⟨.inr f2,by omega,by omega,fun _ g=>(HZ hρ hS (hw g).1 (hw g).2 hcom).1⟩,?_⟩
  have hB2:BI S h0 n G nl nw i (jI x f)→(∀E er,E=4∨E=5→Qe S h0 n G nl nw i x (fi (jI x f) E er (-1))):=fun b E er hE=>by
   obtain⟨w1,w2⟩:=Ge (a:=(jI x f).inn) hcom
   exact⟨b.out hcom (by omega) (fun g=>by omega),w2,w1,rfl,⟨by simp,by simp⟩,rfl⟩
  have hB3:l7 16 x.rd ⟨f.stripe,f.lock.version⟩≠0→BI S h0 n G nl nw i (jI x f):=fun g=>by
   have e:ny 16 x.rd ⟨f.stripe,f.lock.version⟩=x.rd:=by
    unfold l7 at g
    unfold ny
    split
    ·rfl
    ·rename_i g2
     rw [if_neg g2] at g
     cases hs:mb x.rd f.stripe with
     | some v=>rfl
     | none =>
      rw [hs] at g
      simp only at g ⊢
      split
      ·rfl
      ·rename_i g3;rw [if_neg g3] at g;exact absurd rfl g
   have e2:jI x f=x:=by unfold jI;rw [e]
   rw [e2];exact h
  unfold cy
  rw [if_neg (by omega)]
  split
  ·rename_i g
   obtain⟨r1,r2,r3,r4,r5,r6⟩:=(HZ hρ hS (hw g).1 (hw g).2 hcom).2
   exact⟨r1,r2,r3,r4,r5,r6⟩
  ·rename_i g
   split
   ·exact hB2 (hB3 g) 5 0 (.inr rfl)
   ·exact hB2 (hB3 g) 4 _ (.inl rfl)
theorem Qe.toR {y:bi}(hX:X i=tG)(hm:dI m' L X=dI m L X)(h:Qe S h0 n (dI m L X) m.l.length m.w.length i y x')(hx:Bg x.inn=tG)(hw:x.inn.wr=false)(hb:x.begun=true)(hy:y.beg=x.beg)(hr:y.run.isSome=x.run.isSome):nG S h0 n m L X i x (fM x') m' L:=by
 rw [C4 h.wr]
 exact .quiet (by rw [hX,hx]) hm (by rw [h.hx,hx]) ⟨by rw [h.wr,hw],fun g=>by rw [hw] at g;cases g⟩ ⟨fun _=>⟨by rw [h.inv.begun];have:=h.st.1;simp;omega,by rw [h.beg,hy]⟩,fun g=>by rw [hb] at g;cases g⟩ h.inv (h.isr.trans hr)
theorem QL (hρ:cx ρ)(hS:gZ S n m.l.length m.w.length)(hi:fx (ij S) h0 n (dI m L X))(hX:X i=Bg x.inn)(h:iN S h0 n (dI m L X) m.l.length m.w.length i x)(hs:x.state=3) :
  ni x (ay m (be x).1).2∧nG S h0 n m L X i x (ao ρ x (ay m (be x).1).2) (ay m (be x).1).1 L:=by
 obtain⟨hn,f,hf,hF⟩:=h.fet hs
 have hcom:x.inn.isCom=false:=by rw [hf]
 obtain⟨w1,w2⟩:=Ge hcom
 have hX0:X i=tG:=by rw [hX,w2]
 have hB:=h.toB (by omega) (by omega) w1
 have hR:DK x:=h.run (by omega)
 have hplace:=Et hn.1
 rw [h.vsz,←hF.pl] at hplace
 obtain⟨hs1,hs2⟩:=hS.str (c:=f.place) ⟨by omega,by omega⟩
 have hstr:f.stripe=((ij S f.place:Nat):Int):=by rw [hF.str,hs1]
 have en:be x=eB f:=by unfold be;rw [if_neg (by omega),if_neg (by omega),if_neg (by omega),if_neg (by omega),if_neg (by omega),hf]
 have et:∀a,ao ρ x a=dN ρ { x with inn:=.fetch (df f a) }:=fun a=>by unfold ao;rw [if_neg (by omega),if_neg (by omega),if_neg (by omega),if_neg (by omega),if_neg (by omega),hf]
 have key:∀(a:eW) (f':fj) (m':fE),dI m' L X=dI m L X→df f a=f'→a.err=0 →
   (Tw S n (dI m L X) x f'∨(f'.pat.fin=5)∨((f'.pat.fin=6∨(f'.pat.fin=2∧(dI m L X).lk (ij S f'.place)=f'.lock∧f'.lock.held=false∧f'.lock.owner=0∧f'.lock.version≤x.stamp∧qY (ij S) n (dI m L X) f'.place f'.lock.version f'.word))∧f'.place=f.place∧f'.stripe=f.stripe)) →
   ni x a∧nG S h0 n m L X i x (ao ρ x a) m' L:=by
  intro a f' m' hm hff ha hc
  have hx1:BI S h0 n (dI m L X) m.l.length m.w.length i { x with inn:=.fetch f' }:=⟨hB.me,hB.s,hB.vok,hB.kok,hB.vsz,hB.rd,hB.blk,hB.begun,hB.beg,hB.all,hB.fin⟩
  rw [et,hff]
  have hin:∀(P:f'.pat.fin=0∨f'.pat.fin=5∨Jm { x with inn:=.fetch f' } f'),ni x a:=fun P =>
   ⟨ha,fun g=>by omega,fun _ _ _ _ _=>by
    rw [hf]
    refine⟨trivial,⟨trivial,fun q hq=>?_,fun q hq=>(by cases hq),fun q hq=>(by cases hq)⟩⟩
    simp only [rG.fetch.injEq] at hq
    subst hq
    have e:rG.tell a (.fetch f)=.fetch (df f a):=rfl
    rw [hff,e,hff]
    exact⟨hs,P⟩⟩
  rcases hc with hc | hc | ⟨hc,hp,hst⟩
  ·refine⟨hin (.inl hc.fin),?_⟩
   have e:dN ρ { x with inn:=.fetch f' }={ x with inn:=.fetch f' }:=by
    unfold dN
    rw [if_pos (by exact hc.fin),C4 rfl]
   rw [e]
   have:=hB.fet hn hR hc
   rw [show ({ x with inn:=.fetch f',state:=3 }:bi)={ x with inn:=.fetch f' } by rw [←hs]] at this
   exact .quiet hX hm (by rw [w2];rfl) ⟨by rw [w1],fun g=>by rw [w1] at g;cases g⟩ ⟨fun g=>⟨g,rfl⟩,fun g g2=>(by rw [show ({ x with inn:=.fetch f' }:bi).begun=x.begun from rfl,g] at g2;cases g2)⟩ this rfl
  ·refine⟨hin (.inr (.inl hc)),?_⟩
   have e:dN ρ { x with inn:=.fetch f' }=fM (fi { x with inn:=.fetch f' } 5 0 f'.pat.by_):=by
    unfold dN
    rw [if_neg (by show ¬f'.pat.fin=0;omega),if_pos (by exact hc)]
   rw [e]
   exact Qe.toR (y:=x) hX0 hm ⟨hx1.out rfl (by simp) (fun g=>by omega),rfl,rfl,rfl,⟨by simp,by simp⟩,rfl⟩ w2 w1 hB.begun rfl rfl
  ·obtain⟨r1,r2⟩:=LQ (x:={ x with inn:=.fetch f' }) hρ hS hi hx1 hR hn rfl hc (hp.trans hF.pl) (by rw [hst,hp];exact hF.str)
   refine⟨hin (.inr (.inr r1)),?_⟩
   have e:dN ρ { x with inn:=.fetch f' }=fM (cy ρ { x with inn:=.fetch f' } f'):=by
    unfold dN
    rw [if_neg (by show ¬f'.pat.fin=0;omega),if_neg (by show ¬f'.pat.fin=5;omega)]
   rw [e]
   exact Qe.toR hX0 hm r2 w2 w1 hB.begun rfl rfl
 rw [en]
 have hf0:=hF.fin
 by_cases h1:f.state=1
 ·have en:(eB f).1=⟨1,f.place,0,0,ae,ae⟩:=by unfold eB;rw [if_pos hf0,if_pos h1]
  rw [en]
  obtain⟨c,e⟩:=Rx (m:=m) (a:=f.place) (w:=0) (o:=0) (u:=ae) (v:=ae) hplace
  rw [e]
  obtain⟨k1,k2,k3,k4,k5⟩:=hF.lock (by omega)
  refine key _ { f with word:=m.w.getD f.place.toNat 0,state:=2 } _ rfl (by unfold df;rw [gq,if_pos hf0,if_pos h1]) rfl (.inl ⟨hF.fin,hF.pl,hF.str,hF.stamp,.inr (.inr rfl),fun _=>⟨k1,k2,k3,k4,k5⟩,fun _=>?_⟩)
  exact qY.mk' (G:=dI m L X) k5
 ·have en:(eB f).1=⟨3,f.stripe,0,0,ae,ae⟩:=by unfold eB;rw [if_pos hf0,if_neg h1]
  rw [en]
  obtain⟨c,e⟩:=Dh (m:=m) (a:=0) (b:=0) (u:=ae) (w:=ae) (s:=f.stripe) (by rw [hstr];omega)
  rw [e]
  have hl:(dI m L X).lk (ij S f.place)=m.l.getD f.stripe.toNat ae:=by rw [hstr];rfl
  generalize hlg:m.l.getD f.stripe.toNat ae=l at hl
  have hvl:=hi.v (ij S f.place)
  rw [hl] at hvl
  have hfound:f.state=0∨f.state=2→¬(f.state=2∧l=f.lock)→df f ⟨0,l,false,0⟩=kJ f l:=fun _ g=>by
   unfold df;rw [gq,if_pos hf0,if_neg h1,if_neg g]
  by_cases h2:f.state=2∧l=f.lock
  ·obtain⟨g1,g2⟩:=h2
   obtain⟨k1,k2,k3,k4,k5⟩:=hF.lock (by omega)
   exact key _ { f with pat:=f.pat.stop 2 0 (-1) } _ rfl (by unfold df;rw [gq,if_pos hf0,if_neg h1,if_pos ⟨g1,g2⟩]) rfl (.inr (.inr ⟨.inr ⟨rfl,by rw [hl];exact g2,k1,k2,by have:=hF.stamp;simp only;omega,hF.know g1⟩,rfl,rfl⟩))
  ·have hst:=hF.st
   have hfd:=hfound (by omega) h2
   unfold kJ at hfd
   split at hfd
   ·split at hfd
    ·exact key _ _ _ rfl hfd rfl (.inl ⟨GS hf0,hF.pl,hF.str,hF.stamp,.inl rfl,fun g=>absurd rfl g,fun g=>(by cases g)⟩)
    ·exact key _ _ _ rfl hfd rfl (.inr (.inl rfl))
   ·rename_i g
    split at hfd
    ·exact key _ _ _ rfl hfd rfl (.inr (.inr ⟨.inl rfl,rfl,rfl⟩))
    ·rename_i g2
     have hh:l.held=false:=by simpa using g
     exact key _ _ _ rfl hfd rfl (.inl ⟨hf0,hF.pl,hF.str,hF.stamp,.inr (.inl rfl),fun _=>⟨hh,by rw [←hl] at hh ⊢;exact hi.free _ hh,hvl.1,by simp only;omega,by rw [hl];exact Int.le_refl _⟩,fun g=>(by cases g)⟩)
theorem QN (hS:gZ S n m.l.length m.w.length)(hi:fx (ij S) h0 n (dI m L X))(hX:X i=Bg x.inn)(h:iN S h0 n (dI m L X) m.l.length m.w.length i x)(hs:x.state=4∨x.state=5) :
  ni x (ay m (be x).1).2∧nG S h0 n m L X i x (ao ρ x (ay m (be x).1).2) (ay m (be x).1).1 L:=by
 obtain⟨hn,e,he,hE⟩:=h.ext hs
 have hcom:x.inn.isCom=false:=by rw [he]
 obtain⟨w1,w2⟩:=Ge hcom
 have hX0:X i=tG:=by rw [hX,w2]
 have hB:=h.toB (by omega) (by omega) w1
 have hs4:(x.state=4∧Nd x.v∧DK x)∨x.state=5:=by
  rcases hs with g | g
  ·exact .inl ⟨g,hn g,h.run (by omega)⟩
  ·exact .inr g
 have hlen:x.rd.length≤16:=h.rd.1
 have en:be x=ia e:=by unfold be;rw [if_neg (by omega),if_neg (by omega),if_neg (by omega),if_neg (by omega),if_neg (by omega),he]
 have et:∀a,ao ρ x a=dN ρ { x with inn:=.ext (dS e a) }:=fun a=>by unfold ao;rw [if_neg (by omega),if_neg (by omega),if_neg (by omega),if_neg (by omega),if_neg (by omega),he]
 have key:∀(a:eW) (e':ux) (m':fE),dI m' L X=dI m L X→dS e a=e'→a.err=0 →
   Km e'→e'.seen=x.rd→(Tg S h0 n (dI m L X) i x e'∨e'.pat.fin=5∨(e'.pat.fin=2∧x.stamp≤e'.stamp∧e'.stamp≤(dI m L X).T∧∀z∈x.rd,ik (ij S) h0 n (dI m L X) i e'.stamp x.v.k z.stripe.toNat z.version)) →
   ni x a∧nG S h0 n m L X i x (ao ρ x a) m' L:=by
  intro a e' m' hm hff ha hok hseen hc
  have hx1:BI S h0 n (dI m L X) m.l.length m.w.length i { x with inn:=.ext e' }:=⟨hB.me,hB.s,hB.vok,hB.kok,hB.vsz,hB.rd,hB.blk,hB.begun,hB.beg,hB.all,hB.fin⟩
  rw [et,hff]
  have hin:(e'.pat.fin=0∨e'.pat.fin=5∨e'.pat.fin=2)→ni x a:=fun P =>
   ⟨ha,fun g=>by omega,fun _ _ _ _ _=>by
    rw [he]
    have e1:rG.tell a (.ext e)=.ext (dS e a):=rfl
    have e2:e.seen.length≤1000000:=by rw [hE.seen];omega
    have e3:e'.seen.length≤1000000:=by rw [hseen];omega
    refine⟨⟨hE.ok,e2⟩,⟨by rw [e1,hff];exact⟨hok,e3⟩,fun q hq=>(by cases hq),fun q hq=>?_,fun q hq=>(by cases hq)⟩⟩
    simp only [e1,rG.ext.injEq] at hq
    subst hq
    rw [hff]
    exact⟨hs,P⟩⟩
  rcases hc with hc | hc | ⟨hc,hst1,hst2,hg⟩
  ·refine⟨hin (.inl hc.fin),?_⟩
   have e1:dN ρ { x with inn:=.ext e' }={ x with inn:=.ext e' }:=by
    unfold dN
    rw [if_pos (by exact hc.fin),C4 rfl]
   rw [e1]
   exact .quiet hX hm (by rw [w2];rfl) ⟨by rw [w1],fun g=>by rw [w1] at g;cases g⟩ ⟨fun g=>⟨g,rfl⟩,fun g g2=>(by rw [show ({ x with inn:=.ext e' }:bi).begun=x.begun from rfl,g] at g2;cases g2)⟩ (hB.ext hs4 hc) rfl
  ·refine⟨hin (.inr (.inl hc)),?_⟩
   have e1:dN ρ { x with inn:=.ext e' }=fM (fi { x with inn:=.ext e' } 5 0 e'.pat.by_):=by
    unfold dN
    rw [if_neg (by show ¬e'.pat.fin=0;omega),if_pos (by exact hc)]
   rw [e1]
   exact Qe.toR (y:=x) hX0 hm ⟨hx1.out rfl (by simp) (fun g=>by omega),rfl,rfl,rfl,⟨by simp,by simp⟩,rfl⟩ w2 w1 hB.begun rfl rfl
  ·refine⟨hin (.inr (.inr hc)),?_⟩
   have hx2:BI S h0 n (dI m L X) m.l.length m.w.length i { x with inn:=.ext e',stamp:=e'.stamp } :=
    ⟨hB.me,hB.s,hB.vok,hB.kok,hB.vsz,hB.rd,hB.blk,hB.begun,⟨hB.beg.1,Int.le_trans hB.beg.2.1 hst1,hst2⟩,⟨fun p hp=>(by obtain⟨z,hz,rfl⟩:=List.mem_map.1 hp;exact hg z hz),hB.all.in_⟩,hB.fin⟩
   have e1:dN ρ { x with inn:=.ext e' }=fM (if x.state=4 then qt { x with inn:=.ext e',stamp:=e'.stamp } x.v.need else fi { x with inn:=.ext e',stamp:=e'.stamp } 3 0 (-1)):=by
    unfold dN
    rw [if_neg (by show ¬e'.pat.fin=0;omega),if_neg (by show ¬e'.pat.fin=5;omega)]
   rw [e1]
   rcases hs4 with ⟨g,g2,g3⟩ | g
   ·rw [if_pos g]
    exact Qe.toR (y:=x) hX0 hm ⟨hx2.ask g2 g3,rfl,rfl,rfl,⟨by simp,by simp⟩,rfl⟩ w2 w1 hB.begun rfl rfl
   ·rw [if_neg (by omega)]
    exact Qe.toR (y:=x) hX0 hm ⟨hx2.out rfl (by simp) (fun g=>by omega),rfl,rfl,rfl,⟨by simp,by simp⟩,rfl⟩ w2 w1 hB.begun rfl rfl
 rw [en]
 have hf0:=hE.fin
 have hseen:=hE.seen
 have hdone:∀(e':ux) (a:eW) (m':fE),dI m' L X=dI m L X→dS e a=ra e'→a.err=0→e'.pat.fin=0→e'.loaded=true→e'.seen=x.rd→e'.pos≤e'.seen.length→x.stamp≤e'.stamp→e'.stamp≤(dI m L X).T→(∀j z,j<e'.pos→e'.seen[j]? = some z→ik (ij S) h0 n (dI m L X) i e'.stamp x.v.k z.stripe.toNat z.version)→ni x a∧nG S h0 n m L X i x (ao ρ x a) m' L:=by
  intro e' a m' hm ht ha f1 f2 f3 f4 f5 f6 f7
  unfold ra at ht
  split at ht
  ·rename_i g
   refine key a _ m' hm ht ha (fun g=>(by cases g)) f3 (.inr (.inr ⟨rfl,f5,f6,fun z hz=>?_⟩))
   obtain⟨j,hj,e⟩:=List.getElem_of_mem hz
   exact f7 j z (by rw [g,f3];exact hj) (by rw [f3,List.getElem?_eq_getElem hj,e])
  ·rename_i g
   have hp:e'.pos<e'.seen.length:=by omega
   exact key a _ m' hm ht ha (fun _ _=>hp) f3 (.inl ⟨f1,f3,fun _ _=>hp,fun _=>⟨f5,f6,f7⟩,fun g=>(by rw [f2] at g;cases g)⟩)
 cases hl:e.loaded with
 | false =>
  have en:(ia e).1=⟨6,0,0,0,ae,ae⟩:=by unfold ia;rw [if_pos hf0,if_neg (by rw [hl];decide)]
  rw [en]
  have e1:∃c,ay m ⟨6,0,0,0,ae,ae⟩=({ m with count:=c },⟨m.n,ae,false,0⟩):=⟨_,rfl⟩
  obtain⟨c,e1⟩:=e1
  rw [e1]
  have hpos:=hE.pos hl
  exact hdone { e with loaded:=true,stamp:=m.n } _ _ rfl (by unfold dS;rw [gq,if_pos hf0,if_pos hl]) rfl hf0 rfl hseen (by rw [hpos];exact Nat.zero_le _) hB.beg.2.2 (Int.le_refl _) (fun j z hj _=>by have hj:j<e.pos:=hj;omega)
 | true =>
  obtain⟨a1,a2,a3⟩:=hE.at_ hl
  have hp:=hE.ok hf0 hl
  have hz:e.seen.getD e.pos ⟨0,0⟩=e.seen[e.pos]:=by rw [List.getD_eq_getElem?_getD,List.getElem?_eq_getElem hp];rfl
  have hmem:e.seen[e.pos]∈x.rd:=by rw [←hseen];exact List.getElem_mem hp
  have en:(ia e).1=⟨3,e.seen[e.pos].stripe,0,0,ae,ae⟩:=by unfold ia;rw [if_pos hf0,if_pos hl,hz]
  rw [en]
  obtain⟨c,e1⟩:=Dh (m:=m) (a:=0) (b:=0) (u:=ae) (w:=ae) (h.rd.2 _ hmem)
  rw [e1]
  have hlk:(dI m L X).lk e.seen[e.pos].stripe.toNat=m.l.getD e.seen[e.pos].stripe.toNat ae:=rfl
  generalize m.l.getD e.seen[e.pos].stripe.toNat ae=l at hlk
  have ht:dS e ⟨0,l,false,0⟩=if l.held=true then (if (e.pat.waits l.owner).2=true then { e with pat:=(e.pat.waits l.owner).1 } else { e with pat:=(e.pat.waits l.owner).1.stop 5 0 l.owner })
   else if l.version=e.seen[e.pos].version then ra { e with pos:=e.pos+1 }
   else { e with pat:=e.pat.stop 5 0 (-1) }:=by
   unfold dS;rw [gq,if_pos hf0,if_neg (by rw [hl];decide),hz]
  split at ht
  ·split at ht
   ·exact key _ _ _ rfl ht rfl (fun _ _=>hp) hseen (.inl ⟨GS hf0,hseen,fun _ _=>hp,fun _=>⟨a1,a2,a3⟩,fun g=>(by rw [show ({ e with pat:=(e.pat.waits l.owner).1 }:ux).loaded=e.loaded from rfl,hl] at g;cases g)⟩)
   ·exact key _ _ _ rfl ht rfl (fun g=>(by cases g)) hseen (.inr (.inl rfl))
  ·rename_i g
   split at ht
   ·rename_i g2
    refine hdone _ _ _ rfl ht rfl hf0 hl hseen hp a1 a2 (fun j z hj hjz=>?_)
    have hj:j<e.pos+1:=hj
    by_cases c:j<e.pos
    ·exact a3 j z c hjz
    ·have:j=e.pos:=by omega
     subst this
     have hjz:e.seen[e.pos]? = some z:=hjz
     rw [List.getElem?_eq_getElem hp] at hjz
     cases hjz
     have hg:=hB.all.good _ (List.mem_map.2 ⟨_,hmem,rfl⟩)
     exact hg.now hi (by rw [hlk];exact g2) (.inl (by rw [hlk];simpa using g)) (by have:=hg.v0;have h2:=a1;simp only at this ⊢;omega) a2
   ·exact key _ _ _ rfl ht rfl (fun g=>(by cases g)) hseen (.inr (.inl rfl))
theorem MK {o:pD}(hT:m.n<4611686018427387904):(ay m o).1.n<4611686018427387904∧(ay m o).1.w.length=m.w.length∧(ay m o).1.l.length=m.l.length∧(ay m o).1.s.length=m.s.length:=by
 have hc:(ay m o).1.n=(bz m o).1.n∧(ay m o).1.w=(bz m o).1.w∧(ay m o).1.l=(bz m o).1.l∧(ay m o).1.s=(bz m o).1.s:=by unfold ay;split <;> exact⟨rfl,rfl,rfl,rfl⟩
 rw [hc.1,hc.2.1,hc.2.2.1,hc.2.2.2]
 have hcas:∀a b c,(lR m.l a b c).1.length=m.l.length:=fun a b c=>by unfold lR;split <;> (try split) <;> simp
 have hsto:∀a c,(jD m.l a c).1.length=m.l.length:=fun a c=>by unfold jD;split <;> simp
 let P:fE×eW→Prop:=fun r=>r.1.n<4611686018427387904∧r.1.w.length=m.w.length∧r.1.l.length=m.l.length∧r.1.s.length=m.s.length
 have hif:∀{c:Prop} [Decidable c] {a b:fE×eW},(c→P a)→(¬c→P b)→P (if c then a else b):=fun {c _ a b} h1 h2=>by
  by_cases g:c
  ·rw [if_pos g];exact h1 g
  ·rw [if_neg g];exact h2 g
 show P (bz m o)
 unfold bz
 have e0:∀a,P (m,a):=fun a=>⟨hT,rfl,rfl,rfl⟩
 exact hif (fun _=>hif (fun _=>e0 _) (fun _=>e0 _)) fun _=>hif (fun _=>hif (fun _=>⟨hT,List.length_set,rfl,rfl⟩) (fun _=>e0 _)) fun _=>hif (fun _=>e0 _) fun _=>hif (fun _=>⟨hT,rfl,hcas _ _ _,rfl⟩) fun _=>hif (fun _=>⟨hT,rfl,hsto _ _,rfl⟩) fun _=>hif (fun _=>e0 _) fun _ =>
  hif (fun _=>hif (fun _=>e0 _) fun _=>hif (fun _=>e0 _) fun g=>hif (fun _=>⟨by show o.word<_;omega,rfl,rfl,rfl⟩) fun _=>e0 _) fun _=>hif (fun _=>hif (fun _=>e0 _) (fun _=>e0 _)) fun _=>hif (fun _=>hif (fun _=>⟨hT,rfl,rfl,List.length_set⟩) (fun _=>e0 _)) fun _=>e0 _
theorem Sk (hn:i<n)(hn4:n≤4)(hT:m.n<4611686018427387904)(hi:fx (ij S) h0 n (dI m L X))(hX:X i=Bg x.inn)(h:iN S h0 n (dI m L X) m.l.length m.w.length i x)(hs:x.state=6) :
  ni x (ay m (be x).1).2∧∃L',nG S h0 n m L X i x (ao ρ x (ay m (be x).1).2) (ay m (be x).1).1 L':=by
 obtain⟨c,hc,hf⟩:=h.com hs
 obtain⟨hI,c1,c2,c3,c4,c5,c6⟩:=h.isc c hc
 have en:be x=bj c:=by unfold be;rw [if_neg (by omega),if_neg (by omega),if_neg (by omega),if_neg (by omega),if_neg (by omega),hc]
 have et:∀a,ao ρ x a=dN ρ { x with inn:=.com (cZ c a) }:=fun a=>by unfold ao;rw [if_neg (by omega),if_neg (by omega),if_neg (by omega),if_neg (by omega),if_neg (by omega),hc]
 obtain⟨r0,L',r1,r2,r3,r4⟩:=Qz hi hn hn4 hT (by rw [hX,hc];rfl) hI hf
 rw [en,et]
 have hok:=iP hI.ok (ay m (bj c).1).2
 have hto:ni x (ay m (bj c).1).2:=⟨r0,fun g=>by omega,fun _ _ _ _ _=>by
  rw [hc]
  have e1:∀a,rG.tell a (.com c)=.com (cZ c a):=fun _=>rfl
  exact⟨hI.ok,⟨by rw [e1];exact hok,fun q hq=>(by cases hq),fun q hq=>(by cases hq),fun q hq=>hs⟩⟩⟩
 refine⟨hto,L',?_⟩
 have hTn:=(MK (o:=(bj c).1) hT).1
 generalize (ay m (bj c).1).1=m' at r1 r2 r4 hTn
 generalize cZ c (ay m (bj c).1).2=c' at r1 r2 r3 r4
 have hwr:∀(d:dP),lr (ij S) h0 n (dI m L X) m.l.length m.w.length i x.v.k d∨lr (ij S) h0 n (dI m' L' (cu X i (gN c'))) m.l.length m.w.length i x.v.k d→(rG.com d).wr=d.writing:=fun d g=>by
  have g2:d.writing=true↔(d.pat.fin=2∨(d.pat.fin=0∧(d.state=5∨d.state=6))):=by rcases g with g | g <;> exact g.wr
  cases hd:d.writing with
  | true =>
   rcases g2.1 hd with g | ⟨g,_⟩ <;> simp [hd,g]
  | false =>
   have:¬d.pat.fin=2:=fun e=>by rw [g2.2 (.inl e)] at hd;cases hd
   simp [hd,this]
 have hw1:=hwr c (.inl hI)
 have hw2:=hwr c' (.inr r2)
 have hcw:x.inn.wr=c.writing:=by rw [hc];exact hw1
 have hb:=h.beg (by omega)
 have hbegun:x.begun=true:=by rw [h.begun];simp;omega
 have hci:x.inn.isCom=true:=by rw [hc]
 obtain⟨e1,e2⟩:=h.ends (.inl hci)
 have tG:=hb.2.2.1
 have hTT:=r1.T
 have hT':(dI m' L' (cu X i (gN c'))).T=m'.n:=rfl
 have hm0:(dI m L X).T=m.n:=rfl
 have hin:=(h.all (by omega)).in_
 have key:∀y:bi,y.me=x.me→y.s=x.s→y.v=x.v→y.rd=x.rd→y.blocks=x.blocks→y.given=x.given→y.run=x.run→y.begun=x.begun→y.beg=x.beg→y.inn=.com c'→((y.state=6∧c'.pat.fin=0∧y.fin=0)∨(y.state=7∧c'.pat.fin≠0∧y.fin=c'.pat.fin))→y.stamp=(if c'.writing=true then c'.now+1 else x.stamp)→nG S h0 n m L X i x y m' L':=by
  intro y a1 a2 a3 a4 a5 a6 a7 a8 a9 a10 a11 a12
  have hy6:6≤y.state:=by omega
  have hyw:y.inn.wr=c'.writing:=by rw [a10];exact hw2
  have hle:c'.writing=true→c.stamp≤c'.now∧c'.now+1≤m'.n:=fun g=>by
   have:=r2.le (.inl g);rw [r3.stamp] at this;exact this
  refine⟨by rw [a10];exact r1,?_,?_,⟨fun _=>⟨by rw [a8];exact hbegun,a9⟩,fun g=>by rw [hbegun] at g;cases g⟩,by rw [a7]⟩
  ·rw [a10]
   refine⟨a1.trans h.me,a2.trans h.s,⟨by omega,by omega⟩,by rw [a3];exact h.vok,by rw [a3];exact h.kok,by rw [a3];exact h.vsz,by rw [a4];exact h.rd,by rw [a5,a6];exact h.blk,fun g=>by omega,fun _=>⟨by rw [a3];exact e1,by unfold bi.items at e2 ⊢;rw [a7];exact e2⟩,by rw [a8,hbegun];simp;omega,fun _=>?_,fun g=>?_,fun g=>by omega,fun _=>?_,fun g=>by omega,fun g=>by omega,fun g=>⟨c',a10,by omega⟩,fun d hd=>?_,fun g=>?_⟩
   ·rw [a9,a12,hyw]
    cases hcw':c'.writing with
    | true =>
     have:=hle hcw'
     refine⟨hb.1,?_,?_,fun _=>?_⟩
     ·rw [if_pos rfl];omega
     ·rw [if_pos rfl];show _≤m'.n;omega
     ·rw [if_pos rfl];omega
    | false =>
     refine⟨hb.1,?_,?_,fun g=>(by cases g)⟩
     ·rw [if_neg (by decide)];exact hb.2.1
     ·rw [if_neg (by decide)];show _≤m'.n
      have h1:m.n≤m'.n:=hTT
      omega
   ·rcases a11 with a11 | a11
    ·exact a11.2.2
    ·omega
   ·have e:y.at_=if c'.writing=true then c'.now else x.stamp:=by
     unfold bi.at_
     rw [hyw,a12]
     cases c'.writing <;> simp
    rw [e,a3,a4]
    refine⟨fun p hp=>?_,hin⟩
    obtain⟨z,hz,rfl⟩:=List.mem_map.1 hp
    have hz':z∈c'.seen:=by rw [r3.seen,c1];exact hz
    cases hcw':c'.writing with
    | true=>rw [if_pos rfl];exact r2.good3 hcw' z hz'
    | false =>
     rw [if_neg (by decide)]
     have h1:=r2.good1 hcw' z hz'
     rw [r3.stamp] at h1
     have:c.writing=false:=by
      rcases r4 with ⟨_,g,_⟩ | ⟨_,_,g,_⟩
      ·rw [←g];exact hcw'
      ·rw [hcw'] at g;cases g
     rw [c4 this] at h1
     exact h1
   ·rw [a10] at hd
    cases hd
    refine⟨by rw [a3];exact r2,by rw [r3.seen,c1,a4],by rw [r3.cells,c2,a3],fun g=>by rw [a12,if_pos g],fun g=>?_,hy6,by rw [a9,r3.stamp];exact c6⟩
    rw [r3.stamp,a12,if_neg (by rw [g];decide)]
    refine c4 ?_
    rcases r4 with ⟨_,g2,_⟩ | ⟨_,_,g2,_⟩
    ·rw [←g2];exact g
    ·rw [g] at g2;cases g2
   ·rcases a11 with a11 | ⟨a11,a13,a14⟩
    ·omega
    ·refine⟨?_,fun g2=>?_,fun g2 g3=>?_,fun d hd=>?_⟩
     ·have:=r2.fin;omega
     ·rw [hyw] at g2
      rcases r2.wr.1 g2 with g | ⟨g,_⟩
      ·omega
      ·omega
     ·rw [hyw] at g3
      have:=r2.wr.2 (.inl (by omega))
      rw [this] at g3;cases g3
     ·rw [a10] at hd;cases hd;exact a13
  ·rcases r4 with ⟨g1,g2,g3⟩ | ⟨g1,g2,g3,g4⟩
   ·refine .inl ⟨g1,by rw [hyw,hcw];exact g2,fun g=>⟨?_,a3⟩⟩
    rw [hcw] at g
    rw [a12,if_pos (by rw [g2];exact g),g3 g,c3 g]
   ·refine .inr ⟨?_,by rw [hcw];exact g2,by rw [hyw];exact g3,?_,hbegun⟩
    ·rw [a12,if_pos g3,a3,←c2];exact g1
    ·rw [a12,if_pos g3];exact g4
 have hwrap:c'.writing=true→IntKind.wrap .u64 (c'.now+1)=c'.now+1:=fun g=>by
  have h1:=r2.le (.inl g)
  have h2:=r2.stamp
  have h3:c'.now+1≤m'.n:=h1.2
  exact CI (by omega) (by omega)
 have hmark:∀y:bi,y.inn=.com c'→y.state≠8→y.stamp=x.stamp→fM y={ y with stamp:=if c'.writing=true then c'.now+1 else x.stamp }:=fun y hy h8 hst=>by
  show (if y.wr=true then { y with stamp:=y.inn.stamp } else y)=_
  have e:y.wr=c'.writing:=by
   show (!decide (y.state=8) && y.inn.wr)=_
   rw [hy,hw2];simp [h8]
  rw [e]
  cases hcw':c'.writing with
  | true=>rw [if_pos rfl,if_pos rfl,hy];rw [show (rG.com c').stamp=c'.now+1 by show (if c'.writing=true then IntKind.wrap .u64 (c'.now+1) else 0)=_;rw [if_pos hcw',hwrap hcw']]
  | false=>rw [if_neg (by decide),if_neg (by decide),←hst]
 have hfin:=r2.fin
 unfold dN
 by_cases f0:c'.pat.fin=0
 ·rw [if_pos (by exact f0),hmark { x with inn:=.com c' } rfl (by show x.state≠8;omega) rfl]
  exact key _ rfl rfl rfl rfl rfl rfl rfl rfl rfl rfl (.inl ⟨hs,f0,h.fin0 (by omega)⟩) rfl
 ·rw [if_neg (by exact f0)]
  by_cases f5:c'.pat.fin=5
  ·rw [if_pos (by exact f5),hmark (fi { x with inn:=.com c' } 5 0 _) rfl (by simp) rfl]
   exact key _ rfl rfl rfl rfl rfl rfl rfl rfl rfl rfl (.inr ⟨rfl,f0,f5.symm⟩) rfl
  ·rw [if_neg (by exact f5)]
   show nG S h0 n m L X i x (fM (fi { x with inn:=.com c' } c'.pat.fin c'.pat.err (-1))) m' L'
   rw [hmark (fi { x with inn:=.com c' } _ _ _) rfl (by simp) rfl]
   exact key _ rfl rfl rfl rfl rfl rfl rfl rfl rfl rfl (.inr ⟨rfl,f0,rfl⟩) rfl
theorem PE (hρ:cx ρ)(hS:gZ S n m.l.length m.w.length)(hn:i<n)(hsl:n≤m.s.length)(hT:m.n<4611686018427387904)(hi:fx (ij S) h0 n (dI m L X))(hX:X i=Bg x.inn)(h:iN S h0 n (dI m L X) m.l.length m.w.length i x)(h8:x.state≠8) :
  ni x (ay m (be x).1).2∧∃L',nG S h0 n m L X i x (ao ρ x (ay m (be x).1).2) (ay m (be x).1).1 L':=by
 have hst:=h.st
 have hme:=h.me
 have ep:∀w,∃c,ay m ⟨9,x.me,0,w,ae,ae⟩=({ m with s:=m.s.set x.me.toNat w,count:=c },iH):=fun w=>JU ⟨by omega,by omega⟩
 by_cases c0:x.state=0
 ·have en:(be x).1=⟨9,x.me,0,1,ae,ae⟩:=by unfold be;rw [if_pos c0]
  rw [en]
  obtain⟨c,e⟩:=ep 1
  rw [e]
  have et:ao ρ x iH={ x with state:=1 }:=by unfold ao;rw [if_neg (by omega),if_pos c0]
  obtain⟨f1,f2,f3⟩:=h.fresh (by omega)
  have hb:x.begun=false:=by rw [h.begun,c0];rfl
  refine⟨⟨rfl,fun g=>by omega,fun g=>absurd c0 g⟩,L,?_⟩
  rw [et]
  refine .quiet hX rfl rfl ⟨rfl,fun _=>⟨rfl,rfl⟩⟩ ⟨fun g=>⟨g,rfl⟩,fun g g2=>(by rw [show ({ x with state:=1 }:bi).begun=x.begun from rfl,g] at g2;cases g2)⟩ ?_ rfl
  refine⟨h.me,h.s,⟨by simp,by simp⟩,h.vok,h.kok,h.vsz,h.rd,h.blk,fun _=>h.run (by omega),h.ends,by show x.begun=_;rw [hb];rfl,fun g=>by simp at g,fun _=>h.fin0 (by omega),fun _=>⟨f1,f2,f3⟩,fun g=>by simp at g,fun g=>by simp at g,fun g=>by simp at g,fun g=>by simp at g,fun c hc=>?_,fun g=>by simp at g⟩
  have hc:x.inn=.com c:=hc
  rw [f1] at hc;cases hc
 by_cases c1:x.state=1
 ·have en:(be x).1=⟨6,0,0,0,ae,ae⟩:=by unfold be;rw [if_neg c0,if_pos c1]
  rw [en]
  have e:∃c,ay m ⟨6,0,0,0,ae,ae⟩=({ m with count:=c },⟨m.n,ae,false,0⟩):=⟨_,rfl⟩
  obtain⟨c,e⟩:=e
  rw [e]
  have et:ao ρ x ⟨m.n,ae,false,0⟩={ x with begun:=true,beg:=m.n,stamp:=m.n,state:=2 }:=by unfold ao;rw [if_neg (by omega),if_neg c0,if_pos c1]
  obtain⟨f1,f2,f3⟩:=h.fresh (by omega)
  have hb:x.begun=false:=by rw [h.begun,c1];rfl
  refine⟨⟨rfl,fun g=>by omega,fun _ g=>absurd c1 g⟩,L,?_⟩
  rw [et]
  refine .quiet hX rfl rfl ⟨rfl,fun g=>(by rw [f1] at g;cases g)⟩ ⟨fun g=>(by rw [hb] at g;cases g),fun _ _=>⟨rfl,rfl⟩⟩ ?_ rfl
  refine⟨h.me,h.s,⟨by simp,by simp⟩,h.vok,h.kok,h.vsz,h.rd,h.blk,fun _=>h.run (by omega),h.ends,rfl,fun _=>⟨hi.t0,Int.le_refl _,Int.le_refl _,fun g=>?_⟩,fun _=>h.fin0 (by omega),fun _=>⟨f1,f2,f3⟩,fun _=>?_,fun g=>by simp at g,fun g=>by simp at g,fun g=>by simp at g,fun c hc=>?_,fun g=>by simp at g⟩
  ·have g:x.inn.wr=true:=g
   rw [f1] at g;cases g
  ·show qu _ _ _ _ _ _ (SY x.rd) x.v.k
   rw [f2,f3]
   exact .nil
  ·have hc:x.inn=.com c:=hc
   rw [f1] at hc;cases hc
 by_cases c2:x.state=2
 ·have en:(be x).1=⟨9,x.me,0,IntKind.wrap .u64 (x.stamp+1),ae,ae⟩:=by unfold be;rw [if_neg c0,if_neg c1,if_pos c2]
  rw [en]
  obtain⟨c,e⟩:=ep (IntKind.wrap .u64 (x.stamp+1))
  rw [e]
  have et:ao ρ x iH=fh ρ x:=by unfold ao;rw [if_neg (by omega),if_neg c0,if_neg c1,if_pos c2]
  obtain⟨f1,f2,f3⟩:=h.fresh (by omega)
  have hcom:x.inn.isCom=false:=by rw [f1]
  obtain⟨w1,w2⟩:=Ge hcom
  have hB:=h.toB (by omega) (by omega) w1
  obtain⟨r1,r2⟩:=HZ hρ hS hB (h.run (by omega)) hcom
  refine⟨⟨rfl,fun _=>r1,fun _ _ g=>absurd c2 g⟩,L,?_⟩
  rw [et]
  have:=Qe.toR (m:=m) (m':={ m with s:=m.s.set x.me.toNat (IntKind.wrap .u64 (x.stamp+1)),count:=c }) (by rw [hX,w2]) rfl r2 w2 w1 hB.begun rfl rfl
  rw [C4 r2.wr] at this
  exact this
 by_cases c7:x.state=7
 ·have en:(be x).1=⟨9,x.me,0,0,ae,ae⟩:=by unfold be;rw [if_neg c0,if_neg c1,if_neg c2,if_pos c7]
  rw [en]
  obtain⟨c,e⟩:=ep 0
  rw [e]
  have et:ao ρ x iH={ x with state:=8 }:=by unfold ao;rw [if_neg h8,if_neg c0,if_neg c1,if_neg c2,if_pos c7]
  refine⟨⟨rfl,fun g=>by omega,fun _ _ _ g=>absurd c7 g⟩,L,?_⟩
  rw [et]
  refine .quiet hX rfl rfl ⟨rfl,fun _=>⟨rfl,rfl⟩⟩ ⟨fun g=>⟨g,rfl⟩,fun g g2=>(by rw [show ({ x with state:=8 }:bi).begun=x.begun from rfl,g] at g2;cases g2)⟩ ?_ rfl
  refine⟨h.me,h.s,⟨by simp,by simp⟩,h.vok,h.kok,h.vsz,h.rd,h.blk,fun g=>by simp at g,h.ends,by show x.begun=_;rw [h.begun];simp;omega,fun _=>h.beg (by omega),fun g=>by simp at g,fun g=>by simp at g,fun _=>h.all (by omega),fun g=>by simp at g,fun g=>by simp at g,fun g=>by simp at g,fun c hc=>?_,fun _=>h.out (by omega)⟩
  obtain⟨a1,a2,a3,a4,a5,a6,a7⟩:=h.isc c hc
  exact⟨a1,a2,a3,a4,a5,by simp,a7⟩
 by_cases c3:x.state=3
 ·obtain⟨r1,r2⟩:=QL hρ hS hi hX h c3;exact⟨r1,L,r2⟩
 by_cases c6:x.state=6
 ·exact Sk (ρ:=ρ) hn hS.n4 hT hi hX h c6
 ·obtain⟨r1,r2⟩:=QN (ρ:=ρ) hS hi hX h (by omega);exact⟨r1,L,r2⟩
theorem iN.wrote (h:iN S h0 n G nl nw i x){b e:Int}:(eP x b e).wrote=x.inn.wr:=by
 have hc:x.inn.wr=true→x.v.l.cells≠[]:=fun g=>by
  cases hx:x.inn with
  | com c=>obtain⟨a1,_,a3,_⟩:=h.isc c hx;rw [←a3];exact a1.nec
  | _=>rw [hx] at g;cases g
 show (x.done && !(if x.done=true then x.v.l.cells else []).isEmpty)=_
 have hd:x.done=(decide ((if x.state=8 then x.fin else 0)=2) || (!decide (x.state=8) && x.inn.wr)):=rfl
 by_cases h8:x.state=8
 ·obtain⟨o1,o2,o3,o4⟩:=h.out (by omega)
  rw [hd,h8]
  cases hw:x.inn.wr with
  | true=>simp [o2 hw,hc hw]
  | false =>
   by_cases f:x.fin=2
   ·simp [f,o3 f hw]
   ·simp [f]
 ·rw [hd]
  cases hw:x.inn.wr with
  | true=>simp [h8,hc hw]
  | false=>simp [h8]
end
end Go.Proofs.YtoealglbimbbmaaGreatDoor.S
