import Derived.Test.YtoealglbimbbmaaGreatDoorOPn
import Derived.Test.YtoealglbimbbmaaGreatDoorOPo
namespace Go.Proofs.YtoealglbimbbmaaGreatDoor.S
open Go Go.Proofs
set_option linter.unusedVariables false
set_option linter.unusedSimpArgs false
theorem B1:∀(m:Nat)(l:List Int),l.Nodup→(∀x∈l,0≤x∧x<m)→l.length≤m
 | 0,l,_,h=>by
  cases l with
  | nil=>simp
  | cons x l=>have:=h x (by simp);omega
 | m+1,l,hn,h=>by
  by_cases hm:(m:Int)∈l
  ·have h1:=B1 m (l.erase m) (hn.erase _) (fun x hx=>by
    have h2:=h x (List.mem_of_mem_erase hx)
    have h3:x≠m:=fun e=>by subst e;exact(List.Nodup.not_mem_erase hn) hx
    omega)
   rw [List.length_erase_of_mem hm] at h1
   omega
  ·have:=B1 m l hn (fun x hx=>by
    have h2:=h x hx
    have h3:x≠m:=fun e=>hm (e ▸ hx)
    omega)
   omega
theorem EM:∀{up:List Lv}{out:List au}{b:Int},Hf out→(∀r∈up,Hf r.c)→(∀c∈out,c.place<b)→(∀r∈up,∀c∈r.c,c.place<b)→Hf (up.foldl (fun out q=>ip q.c out) out)∧(∀c∈up.foldl (fun out q=>ip q.c out) out,c.place<b)∧(up.foldl (fun out q=>ip q.c out) out).length≤eR up+out.length
 | [],out,b,h,_,g,_=>⟨h,g,by simp [eR]⟩
 | r::up,out,b,h,hu,g,gu=>by
  have h1:Hf (ip r.c out):=(hu r (by simp)).puts h.places
  obtain⟨r1,r2,r3⟩:=EM (up:=up) h1 (fun q hq=>hu q (List.mem_cons_of_mem _ hq)) (b:=b) (fun c hc=>by
   rcases FQ hc with hc | ⟨d,hd,e⟩
   ·exact gu r (by simp) c hc
   ·rw [e];exact g d hd) (fun q hq=>gu q (List.mem_cons_of_mem _ hq))
  refine⟨r1,r2,?_⟩
  rw [ev]
  have:=(BD (l:=out) (cs:=r.c)).2
  simp only [List.foldl_cons]
  omega
theorem Pe.cells {s:fR}(h:Pe s):Hf s.l.cells∧(∀c∈s.l.cells,c.place<s.size)∧s.l.cells.length≤96:=by
 obtain⟨r1,r2,r3⟩:=EM (up:=s.l.up) (out:=s.l.r.c) (b:=s.size) (h.ok.ok _ (by simp)) (fun r hr=>h.ok.ok r (List.mem_cons_of_mem _ hr)) (h.in_ _ (by simp)) (fun r hr=>h.in_ r (List.mem_cons_of_mem _ hr))
 refine⟨r1,r2,?_⟩
 have h1:=h.ok.len
 have h2:=h.ok.hi
 rw [ev] at h1
 have e:s.l.cells=s.l.up.foldl (fun out q=>ip q.c out) s.l.r.c:=rfl
 rw [e];omega
theorem L5.few {s:fR}(h:L5 s):s.k.length≤256:=by
 have:=B1 s.size _ h.nodup fun x hx=>by
  obtain⟨c,hc,rfl⟩:=List.mem_map.1 hx
  have:=h.places c hc;omega
 rw [List.length_map] at this
 have:=h.hi;omega
structure Uj (s:fR)(g d:Nat)(R:Nat×fR×Int×Int):Prop where
 k:R.2.1.k=s.k
 size:R.2.1.size=s.size
 ok:Pe s→Pe R.2.1
 fin:R.2.2.1=1∨R.2.2.1=2∨R.2.2.1=4
 need:R.2.2.1=1→Nd R.2.1
 at_:R.1≤g+d
 fr:R.2.1.l.frees.length≤s.l.frees.length
theorem MO:∀{l:List Int}{g:Nat}{s:fR},Uj s g l.length (jx l g s)
 | [],g,s=>⟨rfl,rfl,id,.inr (.inl rfl),by simp [jx],by simp [jx],Nat.le_refl _⟩
 | b::l,g,s=>by
  have hv:=R7 (s:=s) (n:=b)
  unfold jx
  split
  ·obtain⟨r1,r2,r3,r4,r5,r6,r7⟩:=MO (l:=l) (g:=g+1) (s:=(pB s b).1)
   have:=hv.1.fr
   exact⟨r1.trans hv.1.k,r2.trans hv.1.size,fun o=>r3 (hv.1.ok o),r4,r5,by simp only [List.length_cons];omega,by omega⟩
  ·split
   ·rename_i g2
    have:=hv.1.fr
    exact⟨hv.1.k,hv.1.size,hv.1.ok,.inl rfl,fun _=>(hv.2 g2).1,by simp,by simp only;omega⟩
   ·have:=hv.1.fr
    exact⟨hv.1.k,hv.1.size,hv.1.ok,.inr (.inr rfl),by simp,by simp,by simp only;omega⟩
abbrev iq (S:eO)(c:Int):Nat:=(fc c S.stripes S.wide).toNat
abbrev SG (l:List fQ):List (Nat×Int):=l.map fun z=>(z.stripe.toNat,z.version)
def Co:tH→Hx
 | .com c=>gT c
 | _=>sF
def bq.at_ (x:bq):Int:=if x.inn.wr=true then x.stamp-1 else x.stamp
structure ig (S:eO)(n nl nw:Nat):Prop where
 hs:dj S=S
 nl:S.stripes=nl
 nw:S.words=nw
 n4:n≤4
structure Tf (S:eO)(n:Nat)(G:Gs)(x:bq)(f:fT):Prop where
 fin:f.pat.fin=0
 pl:f.place=x.v.need
 str:f.stripe=fc f.place S.stripes S.wide
 stamp:f.stamp=x.stamp
 st:f.state=0∨f.state=1∨f.state=2
 lock:f.state≠0→f.lock.held=false∧f.lock.owner=0∧0≤f.lock.version∧f.lock.version≤f.stamp∧f.lock.version≤(G.lk (iq S f.place)).version
 know:f.state=2→rL (iq S) n G f.place f.lock.version f.word
structure S7 (S:eO)(h0:Hp)(n:Nat)(G:Gs)(i:Nat)(x:bq)(e:u9):Prop where
 fin:e.pat.fin=0
 seen:e.seen=x.rd
 ok:J0 e
 at_:e.loaded=true→x.stamp≤e.stamp∧e.stamp≤G.T∧∀j z,j<e.pos→e.seen[j]? = some z→iC (iq S) h0 n G i e.stamp x.v.k z.stripe.toNat z.version
 pos:e.loaded=false→e.pos=0
structure jq (S:eO)(h0:Hp)(n:Nat)(G:Gs)(nl nw i:Nat)(x:bq):Prop where
 me:x.me=i
 s:x.s=S
 st:0≤x.state∧x.state≤8
 vok:Pe x.v
 kok:L5 x.v
 vsz:x.v.size=nw
 rd:x.rd.length≤16∧∀z∈x.rd,0≤z.stripe∧z.stripe<nl
 blk:x.blocks.length≤100000∧x.given≤x.blocks.length
 run:x.state≤4→(∀r,x.run=some r→Mc r x.v∧r.fin=0)∧(x.run=none→x.v.l.frees.length≤1000)
 ends:(x.inn.isCom=true∨x.fin=2)→x.v.l.frees.length≤1000∧x.items.length≤16
 begun:x.begun=decide (2≤x.state)
 beg:2≤x.state→0≤x.beg∧x.beg≤x.stamp∧x.stamp≤G.T∧(x.inn.wr=true→x.beg<x.stamp)
 fin0:x.state≤6→x.fin=0
 fresh:x.state≤2→x.inn=.none∧x.v.k=[]∧x.rd=[]
 all:2≤x.state→qR (iq S) h0 n G i x.at_ (SG x.rd) x.v.k
 fet:x.state=3→Nd x.v∧∃f,x.inn=.fetch f∧Tf S n G x f
 ext:(x.state=4∨x.state=5)→(x.state=4→Nd x.v)∧∃e,x.inn=.ext e∧S7 S h0 n G i x e
 com:x.state=6→∃c,x.inn=.com c∧c.pat.fin=0
 isc:∀c,x.inn=.com c→lC (iq S) h0 n G nl nw i x.v.k c∧c.seen=x.rd∧c.cells=x.v.l.cells∧(c.writing=true→x.stamp=c.now+1)∧(c.writing=false→c.stamp=x.stamp)∧6≤x.state∧x.beg≤c.stamp
 out:7≤x.state→(x.fin=2∨x.fin=3∨x.fin=4∨x.fin=5)∧(x.inn.wr=true→x.fin=2)∧(x.fin=2→x.inn.wr=false→x.v.l.cells=[])∧∀c,x.inn=.com c→c.pat.fin≠0
section
variable {S:eO}{h0:Hp}{n me i nl nw:Nat}{G G':Gs}{m:gn}{L:tW}{X:Nat→Hx}{x:bq}
theorem ig.lo (h:ig S n nl nw):32≤nw∧nw≤256∧1≤nl∧nl≤16∧0≤S.fuel∧S.fuel≤400:=by
 have e:=h.hs
 have h1:=ft (n:=S.words) (show (32:Int)≤256 by decide)
 have h2:=ft (n:=S.stripes) (show (1:Int)≤16 by decide)
 have h3:=ft (n:=S.fuel) (show (0:Int)≤400 by decide)
 have e1:held S.words 32 256=S.words:=congrArg eO.words e
 have e2:held S.stripes 1 16=S.stripes:=congrArg eO.stripes e
 have e3:held S.fuel 0 400=S.fuel:=congrArg eO.fuel e
 rw [e1,h.nw] at h1
 rw [e2,h.nl] at h2
 rw [e3] at h3
 omega
theorem ig.str (h:ig S n nl nw){c:Int}(hc:0≤c∧c<nw):fc c S.stripes S.wide=((iq S c:Nat):Int)∧iq S c<nl:=by
 have hb:=ft (n:=S.stripes) (show (1:Int)≤16 by decide)
 have hw:=ft (n:=S.wide) (show (1:Int)≤16 by decide)
 have e2:held S.stripes 1 16=S.stripes:=congrArg eO.stripes h.hs
 have hlo:=h.lo
 have e:fc c S.stripes S.wide=(c.tdiv (held S.wide 1 16)).tmod (held S.stripes 1 16):=by
  unfold fc
  rw [if_neg (by omega),iy]
  ·have:=Int.tdiv_nonneg (a:=c) (b:=held S.wide 1 16) hc.1 (by omega);omega
  ·have h1:c.tdiv (held S.wide 1 16)≤c:=by
    rw [Int.tdiv_eq_ediv_of_nonneg hc.1];exact Int.ediv_le_self _ hc.1
   omega
 have h1:0≤fc c S.stripes S.wide:=by
  rw [e]
  exact Int.tmod_nonneg _ (Int.tdiv_nonneg hc.1 (by omega))
 have h2:fc c S.stripes S.wide<nl:=by
  rw [e]
  have:=Int.tmod_lt_of_pos (c.tdiv (held S.wide 1 16)) (show 0<held S.stripes 1 16 by omega)
  rw [e2] at this ⊢
  rw [h.nl] at this ⊢
  exact this
 have e3:((iq S c:Nat):Int)=fc c S.stripes S.wide:=Int.toNat_of_nonneg h1
 exact⟨e3.symm,by omega⟩
theorem jq.le (h:jq S h0 n G nl nw i x):2≤x.state→x.at_≤G.T:=fun g=>by
 have:=(h.beg g).2.2.1
 unfold bq.at_;split <;> omega
theorem jq.tr (h:jq S h0 n G nl nw i x)(hg:z8 (iq S) h0 n me G G')(hm:me<n)(hne:i≠me):jq S h0 n G' nl nw i x:=by
 refine⟨h.me,h.s,h.st,h.vok,h.kok,h.vsz,h.rd,h.blk,h.run,h.ends,h.begun,fun g=>⟨(h.beg g).1,(h.beg g).2.1,Int.le_trans (h.beg g).2.2.1 hg.T,(h.beg g).2.2.2⟩,h.fin0,h.fresh,fun g=>⟨fun p hp=>hg.good hm hne (h.le g) ((h.all g).good p hp),(h.all g).in_⟩,fun g=>?_,fun g=>?_,h.com,fun c hc=>?_,h.out⟩
 ·obtain⟨h1,f,h2,h3⟩:=h.fet g
  exact⟨h1,f,h2,h3.fin,h3.pl,h3.str,h3.stamp,h3.st,fun g=>⟨(h3.lock g).1,(h3.lock g).2.1,(h3.lock g).2.2.1,(h3.lock g).2.2.2.1,Int.le_trans (h3.lock g).2.2.2.2 (hg.ver hm)⟩,fun g=>hg.know hm (h3.know g)⟩
 ·obtain⟨h1,e,h2,h3⟩:=h.ext g
  exact⟨h1,e,h2,h3.fin,h3.seen,h3.ok,fun g=>⟨(h3.at_ g).1,Int.le_trans (h3.at_ g).2.1 hg.T,fun j z hj hz=>hg.good hm hne (h3.at_ g).2.1 ((h3.at_ g).2.2 j z hj hz)⟩,h3.pos⟩
 ·obtain⟨h1,h2⟩:=h.isc c hc
  exact⟨h1.tr hg hm hne,h2⟩
end
structure BI (S:eO)(h0:Hp)(n:Nat)(G:Gs)(nl nw i:Nat)(x:bq):Prop where
 me:x.me=i
 s:x.s=S
 vok:Pe x.v
 kok:L5 x.v
 vsz:x.v.size=nw
 rd:x.rd.length≤16∧∀z∈x.rd,0≤z.stripe∧z.stripe<nl
 blk:x.blocks.length≤100000∧x.given≤x.blocks.length
 begun:x.begun=true
 beg:0≤x.beg∧x.beg≤x.stamp∧x.stamp≤G.T
 all:qR (iq S) h0 n G i x.stamp (SG x.rd) x.v.k
 fin:x.fin=0
def FF (x:bq):Prop:=(∀r,x.run=some r→Mc r x.v∧r.fin=0)∧(x.run=none→x.v.l.frees.length≤1000)
section
variable {S:eO}{h0:Hp}{n me i nl nw:Nat}{G G':Gs}{m:gn}{L:tW}{X:Nat→Hx}{x:bq}
theorem HQ {a:tH}(h:a.isCom=false):a.wr=false∧Co a=sF:=by
 cases a <;> first | exact⟨rfl,rfl⟩ | cases h
structure Tc (x:bq)(q:bq×Int×Int):Prop where
 eq:{ q.1 with run:=x.run,given:=x.given,v:=x.v }=x
 k:q.1.v.k=x.v.k
 size:q.1.v.size=x.v.size
 ok:Pe q.1.v
 fin:q.2.1=1∨q.2.1=2∨q.2.1=3∨q.2.1=4
 need:q.2.1=1→Nd q.1.v∧∀r,q.1.run=some r→Mc r q.1.v∧r.fin=0
 frees:q.2.1=2→q.1.v.l.frees.length≤1000∧q.1.items.length≤16
 nofr:q.1.run=none→q.1.v.l.frees.length≤1000
 given:q.1.given≤x.blocks.length
 isr:q.1.run.isSome=x.run.isSome
theorem Tw (h:BI S h0 n G nl nw i x)(hR:FF x)(hcom:x.inn.isCom=false):Tc x (jD x)∧Fb x:=by
 cases hr:x.run with
 | none =>
  have e:jD x=({ x with given:=(jx (x.blocks.drop x.given) x.given x.v).1,v:=(jx (x.blocks.drop x.given) x.given x.v).2.1 },(jx (x.blocks.drop x.given) x.given x.v).2.2.1,(jx (x.blocks.drop x.given) x.given x.v).2.2.2):=by unfold jD;rw [hr]
  have hg:=MO (l:=x.blocks.drop x.given) (g:=x.given) (s:=x.v)
  have hd:Tc x (jD x):=by
   rw [e]
   refine⟨rfl,hg.k,hg.size,hg.ok h.vok,by rcases hg.fin with g | g | g <;> simp [g],fun g=>⟨hg.need g,fun r g2=>?_⟩,fun _=>⟨?_,?_⟩,fun _=>?_,?_,by rw [hr]⟩
   ·simp [hr] at g2
   ·have:=hg.fr;have:=hR.2 hr;simp only;omega
   ·show (bq.items _).length≤16
    unfold bq.items;simp [hr]
   ·have:=hg.fr;have:=hR.2 hr;simp only;omega
   ·have:=hg.at_;have:=h.blk.2;simp only [List.length_drop] at this ⊢;simp only [List.length_drop] at *;omega
  refine⟨hd,fun r g=>(by rw [hr] at g;cases g),⟨by have:=h.blk;omega,h.blk.2⟩,hcom,by have:=h.rd.1;omega,?_⟩
  have:=hd.ok.cells.2.2;omega
 | some r =>
  obtain⟨r1,r3⟩:=hR.1 r hr
  obtain⟨a1,a2⟩:=P5 (n:=500) r1 r3 (fun g=>by have:=(r1 r3 g).left;omega) (by decide)
  have e:jD x=({ x with run:=some (jp 500 r x.v).1,v:=(jp 500 r x.v).2.1 },(jp 500 r x.v).2.2,(jp 500 r x.v).1.err):=by unfold jD;rw [hr]
  have hd:Tc x (jD x):=by
   rw [e]
   refine⟨rfl,a2.k,a2.size,a2.ok h.vok,a2.fin,fun g=>⟨(a2.need g).1,fun r g2=>?_⟩,fun g=>?_,fun g=>(by cases g),h.blk.2,by rw [hr];rfl⟩
   ·cases g2;exact(a2.need g).2
   ·have:=a2.frees g
    exact⟨by have:=this.1;simp only;omega,this.2⟩
  refine⟨hd,fun r' g=>(by rw [hr] at g;cases g;exact a1),⟨by have:=h.blk;omega,h.blk.2⟩,hcom,by have:=h.rd.1;omega,?_⟩
  have:=hd.ok.cells.2.2;omega
theorem Lr {cs:List au}{y:au}{a w:Int}(hy:y∈cs){k:Nat}(h:fc y.place a w=k)(hk:k<16):(k:Int)∈fM (de cs a w) 16:=by
 rw [zJ]
 refine⟨k,hk,?_,rfl⟩
 simp only [de,fC,List.contains_iff_mem,List.mem_filter,List.mem_map,decide_eq_true_eq]
 exact⟨⟨y,hy,h⟩,by omega⟩
theorem Qh (hS:ig S n nl nw)(hme:x.me=i)(hs:x.s=S)(hvok:Pe x.v)(hvsz:x.v.size=nw)(hrd:x.rd.length≤16∧∀z∈x.rd,0≤z.stripe∧z.stripe<nl)(hbeg:0≤x.stamp∧x.stamp≤G.T)(hall:qR (iq S) h0 n G i x.stamp (SG x.rd) x.v.k)(hc:x.v.l.cells≠[]):lC (iq S) h0 n G nl nw i x.v.k (nB x.me x.s.spins x.stamp x.rd x.v.l.cells (fM (de x.v.l.cells x.s.stripes x.s.wide) 16))∧gT (nB x.me x.s.spins x.stamp x.rd x.v.l.cells (fM (de x.v.l.cells x.s.stripes x.s.wide) 16))=sF:=by
 obtain⟨c1,c2,c3⟩:=hvok.cells
 have hlo:=hS.lo
 have hok:=Ox (me:=x.me) (sp:=x.s.spins) (stamp:=x.stamp) (n:=x.s.stripes) (wide:=x.s.wide) (seen:=x.rd) (cells:=x.v.l.cells) (by have:=hrd.1;omega) (by omega)
 have hin:∀y∈x.v.l.cells,1≤y.place∧y.place<nw:=fun y hy=>by
  have h1:=c1.places y hy
  have h2:=c2 y hy
  rw [hvsz] at h2
  unfold yi at h1
  simp at h1
  exact⟨h1.1,h2⟩
 have hst:∀s∈fM (de x.v.l.cells x.s.stripes x.s.wide) 16,0≤s∧s<nl:=fun s hs1=>by
  obtain⟨j,_,g,rfl⟩:=zJ.1 hs1
  simp only [de,fC,List.contains_iff_mem,List.mem_filter,List.mem_map,decide_eq_true_eq] at g
  obtain⟨⟨y,hy,e⟩,_⟩:=g
  have:=hin y hy
  rw [hs] at e
  obtain⟨e2,e3⟩:=hS.str (c:=y.place) ⟨by omega,this.2⟩
  omega
 have hcov:∀y∈x.v.l.cells,((iq S y.place:Nat):Int)∈fM (de x.v.l.cells x.s.stripes x.s.wide) 16:=fun y hy=>by
  have:=hin y hy
  obtain⟨e2,e3⟩:=hS.str (c:=y.place) ⟨by omega,this.2⟩
  exact Lr hy (by rw [hs];exact e2) (by omega)
 revert hok
 unfold nB iN
 intro hok
 have hfin:(ns x.me x.s.spins).fin=0:=rfl
 generalize ns x.me x.s.spins=P at hok hfin ⊢
 have hs2:∀{a:Nat},(if (0:Nat)=a then (2:Int) else 0)=0∨(if (0:Nat)=a then (2:Int) else 0)=2:=by intro a;split <;> simp
 have hs3:=hs2 (a:=(fM (de x.v.l.cells x.s.stripes x.s.wide) 16).length)
 simp only [List.length_nil] at hok ⊢
 generalize (if (0:Nat)=(fM (de x.v.l.cells x.s.stripes x.s.wide) 16).length then (2:Int) else 0)=q at hok hs3 ⊢
 refine⟨⟨hok,hme,hst,hrd.2,by simp,hcov,c1.nodup,hin,hc,.inl hfin,?_,fun _ g=>?_,fun _ g=>?_,fun _ g=>?_,hbeg,fun g=>?_,fun _ z hz=>hall.good _ (List.mem_map.2 ⟨z,hz,rfl⟩),fun _ g=>?_,fun g=>(by cases g)⟩,?_⟩
 ·simp [hfin];omega
 ·simp only at g;omega
 ·simp only at g;omega
 ·simp only at g;omega
 ·simp at g;omega
 ·simp only at g;omega
 ·unfold gT Ez
  simp only [hfin]
  rcases hs3 with g | g <;> simp [g]
structure PV (S:eO)(h0:Hp)(n:Nat)(G:Gs)(nl nw i:Nat)(x x':bq):Prop where
 inv:jq S h0 n G nl nw i x'
 hx:Co x'.inn=sF
 wr:x'.inn.wr=false
 beg:x'.beg=x.beg
 st:3≤x'.state∧x'.state≤7
 isr:x'.run.isSome=x.run.isSome
theorem BI.fet (h:BI S h0 n G nl nw i x)(hn:Nd x.v)(hR:FF x){f:fT}(hf:Tf S n G x f):jq S h0 n G nl nw i { x with inn:=.fetch f,state:=3 } :=
 ⟨h.me,h.s,⟨by simp,by simp⟩,h.vok,h.kok,h.vsz,h.rd,h.blk,fun _=>hR,fun g=>(by simp [tH.isCom,h.fin] at g),h.begun,fun _=>⟨h.beg.1,h.beg.2.1,h.beg.2.2,fun g=>(by cases g)⟩,fun _=>h.fin,fun g=>(by simp at g),fun _=>h.all,fun _=>⟨hn,f,rfl,hf.fin,hf.pl,hf.str,hf.stamp,hf.st,hf.lock,hf.know⟩,fun g=>(by simp at g),fun g=>(by simp at g),fun c hc=>(by cases hc),fun g=>(by simp at g)⟩
theorem BI.ask (h:BI S h0 n G nl nw i x)(hn:Nd x.v)(hR:FF x):jq S h0 n G nl nw i (zy x x.v.need) :=
 h.fet hn hR ⟨rfl,rfl,(by show fc _ x.s.stripes x.s.wide=_;rw [h.s];rfl),rfl,.inl rfl,fun g=>absurd rfl g,fun g=>(by cases g)⟩
theorem BI.ext (h:BI S h0 n G nl nw i x){st:Int}(hs:(st=4∧Nd x.v∧FF x)∨st=5){e:u9}(he:S7 S h0 n G i x e):jq S h0 n G nl nw i { x with inn:=.ext e,state:=st } :=
 ⟨h.me,h.s,⟨by simp only;omega,by simp only;omega⟩,h.vok,h.kok,h.vsz,h.rd,h.blk,fun g=>(by rcases hs with g2 | g2;exact g2.2.2;simp only at g;omega),fun g=>(by simp [tH.isCom,h.fin] at g),(by show x.begun=_;rw [h.begun];simp;omega),fun _=>⟨h.beg.1,h.beg.2.1,h.beg.2.2,fun g=>(by cases g)⟩,fun _=>h.fin,fun g=>(by simp only at g;omega),fun _=>h.all,fun g=>(by simp only at g;omega),fun _=>⟨fun g=>(by rcases hs with g2 | g2;exact g2.2.1;simp only at g;omega),e,rfl,he.fin,he.seen,he.ok,he.at_,he.pos⟩,fun g=>(by simp only at g;omega),fun c hc=>(by cases hc),fun g=>(by simp only at g;omega)⟩
theorem BI.later (h:BI S h0 n G nl nw i x){st:Int}(hs:(st=4∧Nd x.v∧FF x)∨st=5):jq S h0 n G nl nw i (tt x st) :=
 h.ext hs ⟨rfl,rfl,fun _ g=>(by cases g),fun g=>(by cases g),fun _=>rfl⟩
theorem BI.out (h:BI S h0 n G nl nw i x)(hc:x.inn.isCom=false){E er b:Int}(hE:E=2∨E=3∨E=4∨E=5)(h2:E=2→x.v.l.cells=[]∧x.v.l.frees.length≤1000∧x.items.length≤16):jq S h0 n G nl nw i (hN x E er b):=by
 obtain⟨w1,w2⟩:=HQ hc
 have ei:(hN x E er b).inn=x.inn:=rfl
 refine⟨h.me,h.s,⟨by simp,by simp⟩,h.vok,h.kok,h.vsz,h.rd,h.blk,fun g=>(by simp at g),fun g=>?_,h.begun,fun _=>⟨h.beg.1,h.beg.2.1,h.beg.2.2,fun g=>(by rw [ei,w1] at g;cases g)⟩,fun g=>(by simp at g),fun g=>(by simp at g),fun _=>?_,fun g=>(by simp at g),fun g=>(by simp at g),fun g=>(by simp at g),fun c g=>(by rw [ei] at g;rw [g] at hc;cases hc),fun _=>⟨hE,fun g=>(by rw [ei,w1] at g;cases g),fun g _=>(h2 g).1,fun c g=>(by rw [ei] at g;rw [g] at hc;cases hc)⟩⟩
 ·rcases g with g | g
  ·rw [ei,hc] at g;cases g
  ·exact(h2 g).2
 ·have e:bq.at_ (hN x E er b)=x.stamp:=by unfold bq.at_;rw [ei,w1];rfl
  rw [e];exact h.all
theorem jq.toB (h:jq S h0 n G nl nw i x)(h1:2≤x.state)(h2:x.state≤6)(hw:x.inn.wr=false):BI S h0 n G nl nw i x:=by
 have hb:=h.beg h1
 have ha:=h.all h1
 have e:x.at_=x.stamp:=by unfold bq.at_;rw [hw];rfl
 rw [e] at ha
 exact⟨h.me,h.s,h.vok,h.kok,h.vsz,h.rd,h.blk,by rw [h.begun];simp [h1],⟨hb.1,hb.2.1,hb.2.2.1⟩,ha,h.fin0 h2⟩
theorem IM (hS:ig S n nl nw)(h:BI S h0 n G nl nw i x)(hR:FF x)(hcom0:x.inn.isCom=false):Fb x∧PV S h0 n G nl nw i x (pR x):=by
 obtain⟨hd,hw⟩:=Tw h hR hcom0
 refine⟨hw,?_⟩
 unfold pR
 generalize jD x=q at hd
 obtain⟨y,e,er⟩:=q
 obtain⟨d1,d2,d3,d4,d5,d6,d7,d8,d9,d10⟩:=hd
 simp only at d1 d2 d3 d4 d5 d6 d7 d8 d9 d10
 have e_me:y.me=x.me:=by have:=congrArg bq.me d1;exact this
 have e_s:y.s=x.s:=by have:=congrArg bq.s d1;exact this
 have e_bl:y.blocks=x.blocks:=by have:=congrArg bq.blocks d1;exact this
 have e_rd:y.rd=x.rd:=by have:=congrArg bq.rd d1;exact this
 have e_st:y.state=x.state:=by have:=congrArg bq.state d1;exact this
 have e_in:y.inn=x.inn:=by have:=congrArg bq.inn d1;exact this
 have e_be:y.begun=x.begun:=by have:=congrArg bq.begun d1;exact this
 have e_bg:y.beg=x.beg:=by have:=congrArg bq.beg d1;exact this
 have e_sp:y.stamp=x.stamp:=by have:=congrArg bq.stamp d1;exact this
 have e_fi:y.fin=x.fin:=by have:=congrArg bq.fin d1;exact this
 have hcom:y.inn.isCom=false:=by rw [e_in];exact hcom0
 have hB:BI S h0 n G nl nw i y:=⟨e_me.trans h.me,e_s.trans h.s,d4,⟨by rw [d3];exact h.kok.lo,by rw [d3];exact h.kok.hi,by rw [d2,d3];exact h.kok.places,by rw [d2];exact h.kok.nodup⟩,d3.trans h.vsz,by rw [e_rd];exact h.rd,by rw [e_bl];exact⟨h.blk.1,d9⟩,e_be.trans h.begun,by rw [e_bg,e_sp];exact h.beg,by rw [e_sp,e_rd,d2];exact h.all,e_fi.trans h.fin⟩
 unfold F6
 simp only
 split
 ·rename_i g
  obtain⟨n1,n2⟩:=d6 g
  exact⟨hB.ask n1 ⟨n2,d8⟩,rfl,rfl,e_bg,⟨by simp,by simp⟩,d10⟩
 ·split
  ·exact⟨BI.later (x:={ y with blocking:=true }) ⟨hB.me,hB.s,hB.vok,hB.kok,hB.vsz,hB.rd,hB.blk,hB.begun,hB.beg,hB.all,hB.fin⟩ (.inr rfl),rfl,rfl,e_bg,⟨by simp,by simp⟩,d10⟩
  ·obtain⟨w1,w2⟩:=HQ hcom
   split
   ·exact⟨hB.out hcom (by simp) (fun g=>(by cases g)),w2,w1,e_bg,⟨by simp,by simp⟩,d10⟩
   ·have e2:e=2:=by omega
    split
    ·rename_i g
     exact⟨hB.out hcom (by simp) (fun _=>⟨g,d7 e2⟩),w2,w1,e_bg,⟨by simp,by simp⟩,d10⟩
    ·rename_i g
     obtain⟨hme,hs,_,hkok,hvsz,hrd,hbl,hbegun,hbeg,hall,hfin⟩:=hB
     obtain⟨k1,k2⟩:=Qh (x:=y) hS hme hs d4 hvsz hrd ⟨by omega,hbeg.2.2⟩ hall g
     have e1:(nB y.me y.s.spins y.stamp y.rd y.v.l.cells (fM (de y.v.l.cells y.s.stripes y.s.wide) 16)).pat.fin=0∧(nB y.me y.s.spins y.stamp y.rd y.v.l.cells (fM (de y.v.l.cells y.s.stripes y.s.wide) 16)).seen=y.rd∧(nB y.me y.s.spins y.stamp y.rd y.v.l.cells (fM (de y.v.l.cells y.s.stripes y.s.wide) 16)).cells=y.v.l.cells∧(nB y.me y.s.spins y.stamp y.rd y.v.l.cells (fM (de y.v.l.cells y.s.stripes y.s.wide) 16)).writing=false∧(nB y.me y.s.spins y.stamp y.rd y.v.l.cells (fM (de y.v.l.cells y.s.stripes y.s.wide) 16)).stamp=y.stamp:=⟨rfl,rfl,rfl,rfl,rfl⟩
     generalize nB y.me y.s.spins y.stamp y.rd y.v.l.cells (fM (de y.v.l.cells y.s.stripes y.s.wide) 16)=c at k1 k2 e1
     obtain⟨p1,p2,p3,p4,p5⟩:=e1
     have hwr:(tH.com c).wr=false:=by simp [p4,p1]
     refine⟨⟨hme,hs,⟨by simp,by simp⟩,d4,hkok,hvsz,hrd,hbl,fun g=>by simp at g,fun _=>d7 e2,by show y.begun=_;rw [hbegun];rfl,fun _=>⟨hbeg.1,hbeg.2.1,hbeg.2.2,fun g=>(by simp only [hwr] at g;cases g)⟩,fun _=>hfin,fun g=>by simp at g,fun _=>?_,fun g=>by simp at g,fun g=>by simp at g,fun _=>⟨c,rfl,p1⟩,fun c' hc'=>?_,fun g=>by simp at g⟩,k2,hwr,e_bg,⟨by simp,by simp⟩,d10⟩
     ·have e:bq.at_ { y with inn:=.com c,state:=6 }=y.stamp:=by unfold bq.at_;rw [if_neg (by simp only [hwr];decide)]
      rw [e];exact hall
     ·cases hc'
      exact⟨k1,p2,p3,fun g=>(by rw [p4] at g;cases g),fun _=>p5,by simp,by rw [p5];exact hbeg.2.1⟩
end
def UK (L L':tW)(x x':bq):Prop:=(L'=L∧x'.inn.wr=x.inn.wr∧(x.inn.wr=true→x'.stamp=x.stamp∧x'.v=x.v))∨(L'=vE x'.stamp x'.v.l.cells L∧x.inn.wr=false∧x'.inn.wr=true∧(∀y∈L,y.1≠x'.stamp)∧x.begun=true)
structure sC (S:eO)(h0:Hp)(n:Nat)(m:gn)(L:tW)(X:Nat→Hx)(i:Nat)(x x':bq)(m':gn)(L':tW):Prop where
 to:z8 (iq S) h0 n i (dz m L X) (dz m' L' (cq X i (Co x'.inn)))
 inv:jq S h0 n (dz m' L' (cq X i (Co x'.inn))) m.l.length m.w.length i x'
 log:UK L L' x x'
 beg:(x.begun=true→x'.begun=true∧x'.beg=x.beg)∧(x.begun=false→x'.begun=true→x'.beg=m.n∧x'.state=2)
 isr:x'.run.isSome=x.run.isSome
section
variable {S:eO}{h0:Hp}{n me i nl nw:Nat}{G G':Gs}{m m':gn}{L:tW}{X:Nat→Hx}{x x':bq}
theorem SB {a:Hx}(hX:X i=a)(hm:dz m' L X=dz m L X):dz m' L (cq X i a)=dz m L X:=by
 rw [←hm]
 exact Gs.ext' (fun _=>rfl) (fun _=>rfl) rfl rfl fun k=>HO hX k
theorem sC.quiet (hX:X i=Co x.inn)(hm:dz m' L X=dz m L X)(hx:Co x'.inn=Co x.inn)(hw:x'.inn.wr=x.inn.wr∧(x.inn.wr=true→x'.stamp=x.stamp∧x'.v=x.v))(hb:(x.begun=true→x'.begun=true∧x'.beg=x.beg)∧(x.begun=false→x'.begun=true→x'.beg=m.n∧x'.state=2))(h:jq S h0 n (dz m L X) m.l.length m.w.length i x')(hr:x'.run.isSome=x.run.isSome):sC S h0 n m L X i x x' m' L:=by
 have e:dz m' L (cq X i (Co x'.inn))=dz m L X:=SB (by rw [hX,hx]) hm
 exact⟨by rw [e];exact .refl,by rw [e];exact h,.inl ⟨rfl,hw⟩,hb,hr⟩
theorem D0 {y:bq}(h:y.inn.wr=false):jR y=y:=by
 show (if y.wr=true then _ else y)=y
 rw [if_neg (by show ¬((!decide (y.state=8)) && y.inn.wr)=true;rw [h];simp)]
theorem QH {a w:Int}{u v:cw}{o:Int}(h:0≤a∧a<m.s.length):∃c,az m ⟨9,a,o,w,u,v⟩=({ m with s:=m.s.set a.toNat w,count:=c },iS):=by
 have:jG a m.s.length=true:=by unfold jG;simp [h]
 exact⟨_,by unfold az bx;simp [this,iS];rfl⟩
theorem R3 {a w o:Int}{u v:cw}(h:1≤a∧a<m.w.length):∃c,az m ⟨1,a,o,w,u,v⟩=({ m with count:=c },⟨m.w.getD a.toNat 0,ah,false,0⟩) :=
 ⟨_,by unfold az bx js;simp [h];rfl⟩
theorem Hh {p:oU}{o:Int}(h:p.fin=0):(p.waits o).1.fin=0:=by unfold oU.waits;split <;> exact h
theorem K6 {l:List fQ}{k v:Int}(h:lG l k=some v):(⟨k,v⟩:fQ)∈l:=by
 unfold lG at h
 rw [Option.map_eq_some_iff] at h
 obtain⟨z,hz,e⟩:=h
 have h1:=List.find?_some hz
 have h2:=List.mem_of_find?_eq_some hz
 simp only [decide_eq_true_eq] at h1
 obtain⟨a,b⟩:=z
 simp only at h1 e
 subst h1;subst e
 exact h2
theorem SX {l:List fQ}{z:fQ}(h:nH 16 l z=0)(hl:l.length≤16):(∀y,y∈nW 16 l z↔y∈l∨y=z)∧(nW 16 l z).length≤16:=by
 unfold nH at h
 unfold nW
 split at h
 ·cases h
 ·rename_i g
  rw [if_neg g]
  cases hs:lG l z.stripe with
  | some v =>
   rw [hs] at h
   simp only at h
   split at h
   ·rename_i e
    have:=K6 hs
    refine⟨fun y=>⟨fun g=>.inl g,fun g=>?_⟩,hl⟩
    rcases g with g | rfl
    ·exact g
    ·rw [e] at this;exact this
   ·cases h
  | none =>
   rw [hs] at h
   simp only at h ⊢
   split at h
   ·cases h
   ·rename_i g
    rw [if_neg g]
    refine⟨fun y=>by simp,?_⟩
    have g:¬(l.length:Int)=16:=g
    simp only [List.length_append,List.length_singleton];omega
theorem Tz {s:fR}{c y:Int}(h:Kr s c=true∧fl s.k c=none)(hk:L5 s):(yJ s c y).1=⟨s.size,s.k++[⟨c,y⟩],s.l,s.need⟩∧L5 (yJ s c y).1:=by
 have e:(yJ s c y).1=⟨s.size,s.k++[⟨c,y⟩],s.l,s.need⟩:=by unfold yJ;rw [if_pos h.1,h.2]
 rw [e]
 have hi:=Fc h.1
 refine⟨rfl,hk.lo,hk.hi,fun z hz=>?_,?_⟩
 ·rcases List.mem_append.1 hz with hz | hz
  ·exact hk.places z hz
  ·rw [List.mem_singleton.1 hz];exact hi
 ·have h2:∀(l:List au),fl l c=none→c ∉ l.map (·.place):=by
   intro l
   induction l with
   | nil=>intro _;simp
   | cons z l ih =>
    intro g
    unfold fl at g
    split at g
    ·cases g
    ·rename_i g2
     simp only [List.map_cons,List.mem_cons,not_or]
     exact⟨fun e=>g2 e.symm,ih g⟩
  rw [List.map_append]
  refine List.nodup_append.2 ⟨hk.nodup,by simp,fun a ha b hb=>?_⟩
  simp at hb
  subst hb
  rintro rfl
  exact h2 s.k h.2 ha
theorem LY (hS:ig S n nl nw)(hi:fJ (iq S) h0 n G)(h:BI S h0 n G nl nw i x)(hR:FF x)(hn:Nd x.v){f:fT}(hx:x.inn=.fetch f)(hfin:f.pat.fin=6∨(f.pat.fin=2∧G.lk (iq S f.place)=f.lock∧f.lock.held=false∧f.lock.owner=0∧f.lock.version≤x.stamp∧rL (iq S) n G f.place f.lock.version f.word))(hp:f.place=x.v.need)(hs:f.stripe=fc f.place S.stripes S.wide) :
  JM x f∧PV S h0 n G nl nw i x (iV x f):=by
 have hcom:x.inn.isCom=false:=by rw [hx]
 have hrd:=h.rd
 have hk:=h.kok.few
 have hplace:=Fc hn.1
 rw [h.vsz] at hplace
 obtain⟨hs1,hs2⟩:=hS.str (c:=f.place) ⟨by omega,by omega⟩
 rcases hfin with f6 | ⟨f2,l1,l2,l3,l4,hkn⟩
 ·refine⟨⟨.inl f6,by omega,by omega,fun g=>by omega⟩,?_⟩
  unfold iV
  rw [if_pos f6]
  exact⟨h.later (.inl ⟨rfl,hn,hR⟩),rfl,rfl,rfl,⟨by simp,by simp⟩,rfl⟩
 ·have hlk:G.lk (iq S f.place)=⟨f.lock.version,false,0⟩:=by
   rw [l1];generalize f.lock=l at l2 l3;obtain⟨a,b,c⟩:=l;simp only at l2 l3;rw [l2,l3]
  have hw:nH 16 x.rd ⟨f.stripe,f.lock.version⟩=0→BI S h0 n G nl nw i (rq x f)∧FF (rq x f):=fun g=>by
   obtain⟨a1,a2⟩:=SX g h.rd.1
   obtain⟨k1,k2⟩:=Tz (y:=f.word) hn h.kok
   have hv:(rq x f).v=⟨x.v.size,x.v.k++[⟨x.v.need,f.word⟩],x.v.l,x.v.need⟩:=k1
   have hrun:FF (rq x f):=by
    refine⟨fun r hr=>?_,fun g=>?_⟩
    ·obtain⟨b1,b2⟩:=hR.1 r hr
     refine⟨fun c1 c2=>?_,b2⟩
     have:=b1 c1 c2
     exact⟨this.bad,this.mt,this.pos,this.stk,this.ops,this.told,this.told2,this.few,this.left,by rw [hv];exact this.frees,this.nocall⟩
    ·rw [hv];exact hR.2 g
   refine⟨⟨h.me,h.s,?_,k2,?_,⟨a2,fun z hz=>?_⟩,h.blk,h.begun,h.beg,?_,h.fin⟩,hrun⟩
   ·rw [hv];exact⟨h.vok.ok,h.vok.in_⟩
   ·rw [hv];exact h.vsz
   ·rcases(a1 z).1 hz with hz | rfl
    ·exact h.rd.2 z hz
    ·simp only;rw [hs,hs1];omega
   ·rw [hv]
    show qR (iq S) h0 n G i x.stamp (SG (nW 16 x.rd ⟨f.stripe,f.lock.version⟩)) (x.v.k++[⟨x.v.need,f.word⟩])
    rw [←hp]
    refine qR.add (rd:=SG x.rd) hi h.all hkn hlk l4 h.beg.2.2 fun p=>?_
    unfold SG
    rw [List.mem_map,List.mem_map]
    have e0:f.stripe.toNat=iq S f.place:=by rw [hs]
    constructor
    ·rintro⟨z,hz,rfl⟩
     rcases(a1 z).1 hz with hz | rfl
     ·exact .inl ⟨z,hz,rfl⟩
     ·exact .inr (by rw [←e0])
    ·rintro(⟨z,hz,rfl⟩ | rfl)
     ·exact⟨z,(a1 z).2 (.inl hz),rfl⟩
     ·exact⟨_,(a1 _).2 (.inr rfl),by rw [←e0]⟩
  refine⟨⟨.inr f2,by omega,by omega,fun _ g=>(IM hS (hw g).1 (hw g).2 hcom).1⟩,?_⟩
  have hB2:BI S h0 n G nl nw i (kO x f)→(∀E er,E=4∨E=5→PV S h0 n G nl nw i x (hN (kO x f) E er (-1))):=fun b E er hE=>by
   obtain⟨w1,w2⟩:=HQ (a:=(kO x f).inn) hcom
   exact⟨b.out hcom (by omega) (fun g=>by omega),w2,w1,rfl,⟨by simp,by simp⟩,rfl⟩
  have hB3:nH 16 x.rd ⟨f.stripe,f.lock.version⟩≠0→BI S h0 n G nl nw i (kO x f):=fun g=>by
   have e:nW 16 x.rd ⟨f.stripe,f.lock.version⟩=x.rd:=by
    unfold nH at g
    unfold nW
    split
    ·rfl
    ·rename_i g2
     rw [if_neg g2] at g
     cases hs:lG x.rd f.stripe with
     | some v=>rfl
     | none =>
      rw [hs] at g
      simp only at g ⊢
      split
      ·rfl
      ·rename_i g3;rw [if_neg g3] at g;exact absurd rfl g
   have e2:kO x f=x:=by unfold kO;rw [e]
   rw [e2];exact h
  unfold iV
  rw [if_neg (by omega)]
  split
  ·rename_i g
   obtain⟨r1,r2,r3,r4,r5,r6⟩:=(IM hS (hw g).1 (hw g).2 hcom).2
   exact⟨r1,r2,r3,r4,r5,r6⟩
  ·rename_i g
   split
   ·exact hB2 (hB3 g) 5 0 (.inr rfl)
   ·exact hB2 (hB3 g) 4 _ (.inl rfl)
theorem PV.toR {y:bq}(hX:X i=sF)(hm:dz m' L X=dz m L X)(h:PV S h0 n (dz m L X) m.l.length m.w.length i y x')(hx:Co x.inn=sF)(hw:x.inn.wr=false)(hb:x.begun=true)(hy:y.beg=x.beg)(hr:y.run.isSome=x.run.isSome):sC S h0 n m L X i x (jR x') m' L:=by
 rw [D0 h.wr]
 exact .quiet (by rw [hX,hx]) hm (by rw [h.hx,hx]) ⟨by rw [h.wr,hw],fun g=>by rw [hw] at g;cases g⟩ ⟨fun _=>⟨by rw [h.inv.begun];have:=h.st.1;simp;omega,by rw [h.beg,hy]⟩,fun g=>by rw [hb] at g;cases g⟩ h.inv (h.isr.trans hr)
theorem PH (hS:ig S n m.l.length m.w.length)(hi:fJ (iq S) h0 n (dz m L X))(hX:X i=Co x.inn)(h:jq S h0 n (dz m L X) m.l.length m.w.length i x)(hs:x.state=3) :
  nI x (az m (cn x).1).2∧sC S h0 n m L X i x (bm x (az m (cn x).1).2) (az m (cn x).1).1 L:=by
 obtain⟨hn,f,hf,hF⟩:=h.fet hs
 have hcom:x.inn.isCom=false:=by rw [hf]
 obtain⟨w1,w2⟩:=HQ hcom
 have hX0:X i=sF:=by rw [hX,w2]
 have hB:=h.toB (by omega) (by omega) w1
 have hR:FF x:=h.run (by omega)
 have hplace:=Fc hn.1
 rw [h.vsz,←hF.pl] at hplace
 obtain⟨hs1,hs2⟩:=hS.str (c:=f.place) ⟨by omega,by omega⟩
 have hstr:f.stripe=((iq S f.place:Nat):Int):=by rw [hF.str,hs1]
 have en:cn x=gE f:=by unfold cn;rw [if_neg (by omega),if_neg (by omega),if_neg (by omega),if_neg (by omega),if_neg (by omega),hf]
 have et:∀a,bm x a=fZ { x with inn:=.fetch (gS f a) }:=fun a=>by unfold bm;rw [if_neg (by omega),if_neg (by omega),if_neg (by omega),if_neg (by omega),if_neg (by omega),hf]
 have key:∀(a:fH) (f':fT) (m':gn),dz m' L X=dz m L X→gS f a=f'→a.err=0 →
   (Tf S n (dz m L X) x f'∨(f'.pat.fin=5)∨((f'.pat.fin=6∨(f'.pat.fin=2∧(dz m L X).lk (iq S f'.place)=f'.lock∧f'.lock.held=false∧f'.lock.owner=0∧f'.lock.version≤x.stamp∧rL (iq S) n (dz m L X) f'.place f'.lock.version f'.word))∧f'.place=f.place∧f'.stripe=f.stripe)) →
   nI x a∧sC S h0 n m L X i x (bm x a) m' L:=by
  intro a f' m' hm hff ha hc
  have hx1:BI S h0 n (dz m L X) m.l.length m.w.length i { x with inn:=.fetch f' }:=⟨hB.me,hB.s,hB.vok,hB.kok,hB.vsz,hB.rd,hB.blk,hB.begun,hB.beg,hB.all,hB.fin⟩
  rw [et,hff]
  have hin:∀(P:f'.pat.fin=0∨f'.pat.fin=5∨JM { x with inn:=.fetch f' } f'),nI x a:=fun P =>
   ⟨ha,fun g=>by omega,fun _ _ _ _ _=>by
    rw [hf]
    refine⟨trivial,⟨trivial,fun q hq=>?_,fun q hq=>(by cases hq),fun q hq=>(by cases hq)⟩⟩
    simp only [tH.fetch.injEq] at hq
    subst hq
    have e:tH.tell a (.fetch f)=.fetch (gS f a):=rfl
    rw [hff,e,hff]
    exact⟨hs,P⟩⟩
  rcases hc with hc | hc | ⟨hc,hp,hst⟩
  ·refine⟨hin (.inl hc.fin),?_⟩
   have e:fZ { x with inn:=.fetch f' }={ x with inn:=.fetch f' }:=by
    unfold fZ
    rw [if_pos (by exact hc.fin),D0 rfl]
   rw [e]
   have:=hB.fet hn hR hc
   rw [show ({ x with inn:=.fetch f',state:=3 }:bq)={ x with inn:=.fetch f' } by rw [←hs]] at this
   exact .quiet hX hm (by rw [w2];rfl) ⟨by rw [w1],fun g=>by rw [w1] at g;cases g⟩ ⟨fun g=>⟨g,rfl⟩,fun g g2=>(by rw [show ({ x with inn:=.fetch f' }:bq).begun=x.begun from rfl,g] at g2;cases g2)⟩ this rfl
  ·refine⟨hin (.inr (.inl hc)),?_⟩
   have e:fZ { x with inn:=.fetch f' }=jR (hN { x with inn:=.fetch f' } 5 0 f'.pat.by_):=by
    unfold fZ
    rw [if_neg (by show ¬f'.pat.fin=0;omega),if_pos (by exact hc)]
   rw [e]
   exact PV.toR (y:=x) hX0 hm ⟨hx1.out rfl (by simp) (fun g=>by omega),rfl,rfl,rfl,⟨by simp,by simp⟩,rfl⟩ w2 w1 hB.begun rfl rfl
  ·obtain⟨r1,r2⟩:=LY (x:={ x with inn:=.fetch f' }) hS hi hx1 hR hn rfl hc (hp.trans hF.pl) (by rw [hst,hp];exact hF.str)
   refine⟨hin (.inr (.inr r1)),?_⟩
   have e:fZ { x with inn:=.fetch f' }=jR (iV { x with inn:=.fetch f' } f'):=by
    unfold fZ
    rw [if_neg (by show ¬f'.pat.fin=0;omega),if_neg (by show ¬f'.pat.fin=5;omega)]
   rw [e]
   exact PV.toR hX0 hm r2 w2 w1 hB.begun rfl rfl
 rw [en]
 have hf0:=hF.fin
 by_cases h1:f.state=1
 ·have en:(gE f).1=⟨1,f.place,0,0,ah,ah⟩:=by unfold gE;rw [if_pos hf0,if_pos h1]
  rw [en]
  obtain⟨c,e⟩:=R3 (m:=m) (a:=f.place) (w:=0) (o:=0) (u:=ah) (v:=ah) hplace
  rw [e]
  obtain⟨k1,k2,k3,k4,k5⟩:=hF.lock (by omega)
  refine key _ { f with word:=m.w.getD f.place.toNat 0,state:=2 } _ rfl (by unfold gS;rw [gF,if_pos hf0,if_pos h1]) rfl (.inl ⟨hF.fin,hF.pl,hF.str,hF.stamp,.inr (.inr rfl),fun _=>⟨k1,k2,k3,k4,k5⟩,fun _=>?_⟩)
  exact rL.mk' (G:=dz m L X) k5
 ·have en:(gE f).1=⟨3,f.stripe,0,0,ah,ah⟩:=by unfold gE;rw [if_pos hf0,if_neg h1]
  rw [en]
  obtain⟨c,e⟩:=D2 (m:=m) (a:=0) (b:=0) (u:=ah) (w:=ah) (s:=f.stripe) (by rw [hstr];omega)
  rw [e]
  have hl:(dz m L X).lk (iq S f.place)=m.l.getD f.stripe.toNat ah:=by rw [hstr];rfl
  generalize hlg:m.l.getD f.stripe.toNat ah=l at hl
  have hvl:=hi.v (iq S f.place)
  rw [hl] at hvl
  have hfound:f.state=0∨f.state=2→¬(f.state=2∧l=f.lock)→gS f ⟨0,l,false,0⟩=kS f l:=fun _ g=>by
   unfold gS;rw [gF,if_pos hf0,if_neg h1,if_neg g]
  by_cases h2:f.state=2∧l=f.lock
  ·obtain⟨g1,g2⟩:=h2
   obtain⟨k1,k2,k3,k4,k5⟩:=hF.lock (by omega)
   exact key _ { f with pat:=f.pat.stop 2 0 (-1) } _ rfl (by unfold gS;rw [gF,if_pos hf0,if_neg h1,if_pos ⟨g1,g2⟩]) rfl (.inr (.inr ⟨.inr ⟨rfl,by rw [hl];exact g2,k1,k2,by have:=hF.stamp;simp only;omega,hF.know g1⟩,rfl,rfl⟩))
  ·have hst:=hF.st
   have hfd:=hfound (by omega) h2
   unfold kS at hfd
   split at hfd
   ·split at hfd
    ·exact key _ _ _ rfl hfd rfl (.inl ⟨Hh hf0,hF.pl,hF.str,hF.stamp,.inl rfl,fun g=>absurd rfl g,fun g=>(by cases g)⟩)
    ·exact key _ _ _ rfl hfd rfl (.inr (.inl rfl))
   ·rename_i g
    split at hfd
    ·exact key _ _ _ rfl hfd rfl (.inr (.inr ⟨.inl rfl,rfl,rfl⟩))
    ·rename_i g2
     have hh:l.held=false:=by simpa using g
     exact key _ _ _ rfl hfd rfl (.inl ⟨hf0,hF.pl,hF.str,hF.stamp,.inr (.inl rfl),fun _=>⟨hh,by rw [←hl] at hh ⊢;exact hi.free _ hh,hvl.1,by simp only;omega,by rw [hl];exact Int.le_refl _⟩,fun g=>(by cases g)⟩)
theorem Qe (hS:ig S n m.l.length m.w.length)(hi:fJ (iq S) h0 n (dz m L X))(hX:X i=Co x.inn)(h:jq S h0 n (dz m L X) m.l.length m.w.length i x)(hs:x.state=4∨x.state=5) :
  nI x (az m (cn x).1).2∧sC S h0 n m L X i x (bm x (az m (cn x).1).2) (az m (cn x).1).1 L:=by
 obtain⟨hn,e,he,hE⟩:=h.ext hs
 have hcom:x.inn.isCom=false:=by rw [he]
 obtain⟨w1,w2⟩:=HQ hcom
 have hX0:X i=sF:=by rw [hX,w2]
 have hB:=h.toB (by omega) (by omega) w1
 have hs4:(x.state=4∧Nd x.v∧FF x)∨x.state=5:=by
  rcases hs with g | g
  ·exact .inl ⟨g,hn g,h.run (by omega)⟩
  ·exact .inr g
 have hlen:x.rd.length≤16:=h.rd.1
 have en:cn x=l7 e:=by unfold cn;rw [if_neg (by omega),if_neg (by omega),if_neg (by omega),if_neg (by omega),if_neg (by omega),he]
 have et:∀a,bm x a=fZ { x with inn:=.ext (nR e a) }:=fun a=>by unfold bm;rw [if_neg (by omega),if_neg (by omega),if_neg (by omega),if_neg (by omega),if_neg (by omega),he]
 have key:∀(a:fH) (e':u9) (m':gn),dz m' L X=dz m L X→nR e a=e'→a.err=0 →
   J0 e'→e'.seen=x.rd→(S7 S h0 n (dz m L X) i x e'∨e'.pat.fin=5∨(e'.pat.fin=2∧x.stamp≤e'.stamp∧e'.stamp≤(dz m L X).T∧∀z∈x.rd,iC (iq S) h0 n (dz m L X) i e'.stamp x.v.k z.stripe.toNat z.version)) →
   nI x a∧sC S h0 n m L X i x (bm x a) m' L:=by
  intro a e' m' hm hff ha hok hseen hc
  have hx1:BI S h0 n (dz m L X) m.l.length m.w.length i { x with inn:=.ext e' }:=⟨hB.me,hB.s,hB.vok,hB.kok,hB.vsz,hB.rd,hB.blk,hB.begun,hB.beg,hB.all,hB.fin⟩
  rw [et,hff]
  have hin:(e'.pat.fin=0∨e'.pat.fin=5∨e'.pat.fin=2)→nI x a:=fun P =>
   ⟨ha,fun g=>by omega,fun _ _ _ _ _=>by
    rw [he]
    have e1:tH.tell a (.ext e)=.ext (nR e a):=rfl
    have e2:e.seen.length≤1000000:=by rw [hE.seen];omega
    have e3:e'.seen.length≤1000000:=by rw [hseen];omega
    refine⟨⟨hE.ok,e2⟩,⟨by rw [e1,hff];exact⟨hok,e3⟩,fun q hq=>(by cases hq),fun q hq=>?_,fun q hq=>(by cases hq)⟩⟩
    simp only [e1,tH.ext.injEq] at hq
    subst hq
    rw [hff]
    exact⟨hs,P⟩⟩
  rcases hc with hc | hc | ⟨hc,hst1,hst2,hg⟩
  ·refine⟨hin (.inl hc.fin),?_⟩
   have e1:fZ { x with inn:=.ext e' }={ x with inn:=.ext e' }:=by
    unfold fZ
    rw [if_pos (by exact hc.fin),D0 rfl]
   rw [e1]
   exact .quiet hX hm (by rw [w2];rfl) ⟨by rw [w1],fun g=>by rw [w1] at g;cases g⟩ ⟨fun g=>⟨g,rfl⟩,fun g g2=>(by rw [show ({ x with inn:=.ext e' }:bq).begun=x.begun from rfl,g] at g2;cases g2)⟩ (hB.ext hs4 hc) rfl
  ·refine⟨hin (.inr (.inl hc)),?_⟩
   have e1:fZ { x with inn:=.ext e' }=jR (hN { x with inn:=.ext e' } 5 0 e'.pat.by_):=by
    unfold fZ
    rw [if_neg (by show ¬e'.pat.fin=0;omega),if_pos (by exact hc)]
   rw [e1]
   exact PV.toR (y:=x) hX0 hm ⟨hx1.out rfl (by simp) (fun g=>by omega),rfl,rfl,rfl,⟨by simp,by simp⟩,rfl⟩ w2 w1 hB.begun rfl rfl
  ·refine⟨hin (.inr (.inr hc)),?_⟩
   have hx2:BI S h0 n (dz m L X) m.l.length m.w.length i { x with inn:=.ext e',stamp:=e'.stamp } :=
    ⟨hB.me,hB.s,hB.vok,hB.kok,hB.vsz,hB.rd,hB.blk,hB.begun,⟨hB.beg.1,Int.le_trans hB.beg.2.1 hst1,hst2⟩,⟨fun p hp=>(by obtain⟨z,hz,rfl⟩:=List.mem_map.1 hp;exact hg z hz),hB.all.in_⟩,hB.fin⟩
   have e1:fZ { x with inn:=.ext e' }=jR (if x.state=4 then zy { x with inn:=.ext e',stamp:=e'.stamp } x.v.need else hN { x with inn:=.ext e',stamp:=e'.stamp } 3 0 (-1)):=by
    unfold fZ
    rw [if_neg (by show ¬e'.pat.fin=0;omega),if_neg (by show ¬e'.pat.fin=5;omega)]
   rw [e1]
   rcases hs4 with ⟨g,g2,g3⟩ | g
   ·rw [if_pos g]
    exact PV.toR (y:=x) hX0 hm ⟨hx2.ask g2 g3,rfl,rfl,rfl,⟨by simp,by simp⟩,rfl⟩ w2 w1 hB.begun rfl rfl
   ·rw [if_neg (by omega)]
    exact PV.toR (y:=x) hX0 hm ⟨hx2.out rfl (by simp) (fun g=>by omega),rfl,rfl,rfl,⟨by simp,by simp⟩,rfl⟩ w2 w1 hB.begun rfl rfl
 rw [en]
 have hf0:=hE.fin
 have hseen:=hE.seen
 have hdone:∀(e':u9) (a:fH) (m':gn),dz m' L X=dz m L X→nR e a=rz e'→a.err=0→e'.pat.fin=0→e'.loaded=true→e'.seen=x.rd→e'.pos≤e'.seen.length→x.stamp≤e'.stamp→e'.stamp≤(dz m L X).T→(∀j z,j<e'.pos→e'.seen[j]? = some z→iC (iq S) h0 n (dz m L X) i e'.stamp x.v.k z.stripe.toNat z.version)→nI x a∧sC S h0 n m L X i x (bm x a) m' L:=by
  intro e' a m' hm ht ha f1 f2 f3 f4 f5 f6 f7
  unfold rz at ht
  split at ht
  ·rename_i g
   refine key a _ m' hm ht ha (fun g=>(by cases g)) f3 (.inr (.inr ⟨rfl,f5,f6,fun z hz=>?_⟩))
   obtain⟨j,hj,e⟩:=List.getElem_of_mem hz
   exact f7 j z (by rw [g,f3];exact hj) (by rw [f3,List.getElem?_eq_getElem hj,e])
  ·rename_i g
   have hp:e'.pos<e'.seen.length:=by omega
   exact key a _ m' hm ht ha (fun _ _=>hp) f3 (.inl ⟨f1,f3,fun _ _=>hp,fun _=>⟨f5,f6,f7⟩,fun g=>(by rw [f2] at g;cases g)⟩)
 cases hl:e.loaded with
 | false =>
  have en:(l7 e).1=⟨6,0,0,0,ah,ah⟩:=by unfold l7;rw [if_pos hf0,if_neg (by rw [hl];decide)]
  rw [en]
  have e1:∃c,az m ⟨6,0,0,0,ah,ah⟩=({ m with count:=c },⟨m.n,ah,false,0⟩):=⟨_,rfl⟩
  obtain⟨c,e1⟩:=e1
  rw [e1]
  have hpos:=hE.pos hl
  exact hdone { e with loaded:=true,stamp:=m.n } _ _ rfl (by unfold nR;rw [gF,if_pos hf0,if_pos hl]) rfl hf0 rfl hseen (by rw [hpos];exact Nat.zero_le _) hB.beg.2.2 (Int.le_refl _) (fun j z hj _=>by have hj:j<e.pos:=hj;omega)
 | true =>
  obtain⟨a1,a2,a3⟩:=hE.at_ hl
  have hp:=hE.ok hf0 hl
  have hz:e.seen.getD e.pos ⟨0,0⟩=e.seen[e.pos]:=by rw [List.getD_eq_getElem?_getD,List.getElem?_eq_getElem hp];rfl
  have hmem:e.seen[e.pos]∈x.rd:=by rw [←hseen];exact List.getElem_mem hp
  have en:(l7 e).1=⟨3,e.seen[e.pos].stripe,0,0,ah,ah⟩:=by unfold l7;rw [if_pos hf0,if_pos hl,hz]
  rw [en]
  obtain⟨c,e1⟩:=D2 (m:=m) (a:=0) (b:=0) (u:=ah) (w:=ah) (h.rd.2 _ hmem)
  rw [e1]
  have hlk:(dz m L X).lk e.seen[e.pos].stripe.toNat=m.l.getD e.seen[e.pos].stripe.toNat ah:=rfl
  generalize m.l.getD e.seen[e.pos].stripe.toNat ah=l at hlk
  have ht:nR e ⟨0,l,false,0⟩=if l.held=true then (if (e.pat.waits l.owner).2=true then { e with pat:=(e.pat.waits l.owner).1 } else { e with pat:=(e.pat.waits l.owner).1.stop 5 0 l.owner })
   else if l.version=e.seen[e.pos].version then rz { e with pos:=e.pos+1 }
   else { e with pat:=e.pat.stop 5 0 (-1) }:=by
   unfold nR;rw [gF,if_pos hf0,if_neg (by rw [hl];decide),hz]
  split at ht
  ·split at ht
   ·exact key _ _ _ rfl ht rfl (fun _ _=>hp) hseen (.inl ⟨Hh hf0,hseen,fun _ _=>hp,fun _=>⟨a1,a2,a3⟩,fun g=>(by rw [show ({ e with pat:=(e.pat.waits l.owner).1 }:u9).loaded=e.loaded from rfl,hl] at g;cases g)⟩)
   ·exact key _ _ _ rfl ht rfl (fun g=>(by cases g)) hseen (.inr (.inl rfl))
  ·rename_i g
   split at ht
   ·rename_i g2
    refine hdone _ _ _ rfl ht rfl hf0 hl hseen hp a1 a2 (fun j z hj hjz=>?_)
    have hj:j<e.pos+1:=hj
    by_cases c:j<e.pos
    ·exact a3 j z c hjz
    ·have:j=e.pos:=by omega
     subst this
     have hjz:e.seen[e.pos]? = some z:=hjz
     rw [List.getElem?_eq_getElem hp] at hjz
     cases hjz
     have hg:=hB.all.good _ (List.mem_map.2 ⟨_,hmem,rfl⟩)
     exact hg.now hi (by rw [hlk];exact g2) (.inl (by rw [hlk];simpa using g)) (by have:=hg.v0;have h2:=a1;simp only at this ⊢;omega) a2
   ·exact key _ _ _ rfl ht rfl (fun g=>(by cases g)) hseen (.inr (.inl rfl))
theorem Mq {o:rv}(hT:m.n<4611686018427387904):(az m o).1.n<4611686018427387904∧(az m o).1.w.length=m.w.length∧(az m o).1.l.length=m.l.length∧(az m o).1.s.length=m.s.length:=by
 have hc:(az m o).1.n=(bx m o).1.n∧(az m o).1.w=(bx m o).1.w∧(az m o).1.l=(bx m o).1.l∧(az m o).1.s=(bx m o).1.s:=by unfold az;split <;> exact⟨rfl,rfl,rfl,rfl⟩
 rw [hc.1,hc.2.1,hc.2.2.1,hc.2.2.2]
 have hcas:∀a b c,(ma m.l a b c).1.length=m.l.length:=fun a b c=>by unfold ma;split <;> (try split) <;> simp
 have hsto:∀a c,(ju m.l a c).1.length=m.l.length:=fun a c=>by unfold ju;split <;> simp
 let P:gn×fH→Prop:=fun r=>r.1.n<4611686018427387904∧r.1.w.length=m.w.length∧r.1.l.length=m.l.length∧r.1.s.length=m.s.length
 have hif:∀{c:Prop} [Decidable c] {a b:gn×fH},(c→P a)→(¬c→P b)→P (if c then a else b):=fun {c _ a b} h1 h2=>by
  by_cases g:c
  ·rw [if_pos g];exact h1 g
  ·rw [if_neg g];exact h2 g
 show P (bx m o)
 unfold bx
 have e0:∀a,P (m,a):=fun a=>⟨hT,rfl,rfl,rfl⟩
 exact hif (fun _=>hif (fun _=>e0 _) (fun _=>e0 _)) fun _=>hif (fun _=>hif (fun _=>⟨hT,List.length_set,rfl,rfl⟩) (fun _=>e0 _)) fun _=>hif (fun _=>e0 _) fun _=>hif (fun _=>⟨hT,rfl,hcas _ _ _,rfl⟩) fun _=>hif (fun _=>⟨hT,rfl,hsto _ _,rfl⟩) fun _=>hif (fun _=>e0 _) fun _ =>
  hif (fun _=>hif (fun _=>e0 _) fun _=>hif (fun _=>e0 _) fun g=>hif (fun _=>⟨by show o.word<_;omega,rfl,rfl,rfl⟩) fun _=>e0 _) fun _=>hif (fun _=>hif (fun _=>e0 _) (fun _=>e0 _)) fun _=>hif (fun _=>hif (fun _=>⟨hT,rfl,rfl,List.length_set⟩) (fun _=>e0 _)) fun _=>e0 _
theorem RN (hn:i<n)(hn4:n≤4)(hT:m.n<4611686018427387904)(hi:fJ (iq S) h0 n (dz m L X))(hX:X i=Co x.inn)(h:jq S h0 n (dz m L X) m.l.length m.w.length i x)(hs:x.state=6) :
  nI x (az m (cn x).1).2∧∃L',sC S h0 n m L X i x (bm x (az m (cn x).1).2) (az m (cn x).1).1 L':=by
 obtain⟨c,hc,hf⟩:=h.com hs
 obtain⟨hI,c1,c2,c3,c4,c5,c6⟩:=h.isc c hc
 have en:cn x=bi c:=by unfold cn;rw [if_neg (by omega),if_neg (by omega),if_neg (by omega),if_neg (by omega),if_neg (by omega),hc]
 have et:∀a,bm x a=fZ { x with inn:=.com (cy c a) }:=fun a=>by unfold bm;rw [if_neg (by omega),if_neg (by omega),if_neg (by omega),if_neg (by omega),if_neg (by omega),hc]
 obtain⟨r0,L',r1,r2,r3,r4⟩:=QT hi hn hn4 hT (by rw [hX,hc];rfl) hI hf
 rw [en,et]
 have hok:=iY hI.ok (az m (bi c).1).2
 have hto:nI x (az m (bi c).1).2:=⟨r0,fun g=>by omega,fun _ _ _ _ _=>by
  rw [hc]
  have e1:∀a,tH.tell a (.com c)=.com (cy c a):=fun _=>rfl
  exact⟨hI.ok,⟨by rw [e1];exact hok,fun q hq=>(by cases hq),fun q hq=>(by cases hq),fun q hq=>hs⟩⟩⟩
 refine⟨hto,L',?_⟩
 have hTn:=(Mq (o:=(bi c).1) hT).1
 generalize (az m (bi c).1).1=m' at r1 r2 r4 hTn
 generalize cy c (az m (bi c).1).2=c' at r1 r2 r3 r4
 have hwr:∀(d:eJ),lC (iq S) h0 n (dz m L X) m.l.length m.w.length i x.v.k d∨lC (iq S) h0 n (dz m' L' (cq X i (gT c'))) m.l.length m.w.length i x.v.k d→(tH.com d).wr=d.writing:=fun d g=>by
  have g2:d.writing=true↔(d.pat.fin=2∨(d.pat.fin=0∧(d.state=5∨d.state=6))):=by rcases g with g | g <;> exact g.wr
  cases hd:d.writing with
  | true =>
   rcases g2.1 hd with g | ⟨g,_⟩ <;> simp [hd,g]
  | false =>
   have:¬d.pat.fin=2:=fun e=>by rw [g2.2 (.inl e)] at hd;cases hd
   simp [hd,this]
 have hw1:=hwr c (.inl hI)
 have hw2:=hwr c' (.inr r2)
 have hcw:x.inn.wr=c.writing:=by rw [hc];exact hw1
 have hb:=h.beg (by omega)
 have hbegun:x.begun=true:=by rw [h.begun];simp;omega
 have hci:x.inn.isCom=true:=by rw [hc]
 obtain⟨e1,e2⟩:=h.ends (.inl hci)
 have sF:=hb.2.2.1
 have hTT:=r1.T
 have hT':(dz m' L' (cq X i (gT c'))).T=m'.n:=rfl
 have hm0:(dz m L X).T=m.n:=rfl
 have hin:=(h.all (by omega)).in_
 have key:∀y:bq,y.me=x.me→y.s=x.s→y.v=x.v→y.rd=x.rd→y.blocks=x.blocks→y.given=x.given→y.run=x.run→y.begun=x.begun→y.beg=x.beg→y.inn=.com c'→((y.state=6∧c'.pat.fin=0∧y.fin=0)∨(y.state=7∧c'.pat.fin≠0∧y.fin=c'.pat.fin))→y.stamp=(if c'.writing=true then c'.now+1 else x.stamp)→sC S h0 n m L X i x y m' L':=by
  intro y a1 a2 a3 a4 a5 a6 a7 a8 a9 a10 a11 a12
  have hy6:6≤y.state:=by omega
  have hyw:y.inn.wr=c'.writing:=by rw [a10];exact hw2
  have hle:c'.writing=true→c.stamp≤c'.now∧c'.now+1≤m'.n:=fun g=>by
   have:=r2.le (.inl g);rw [r3.stamp] at this;exact this
  refine⟨by rw [a10];exact r1,?_,?_,⟨fun _=>⟨by rw [a8];exact hbegun,a9⟩,fun g=>by rw [hbegun] at g;cases g⟩,by rw [a7]⟩
  ·rw [a10]
   refine⟨a1.trans h.me,a2.trans h.s,⟨by omega,by omega⟩,by rw [a3];exact h.vok,by rw [a3];exact h.kok,by rw [a3];exact h.vsz,by rw [a4];exact h.rd,by rw [a5,a6];exact h.blk,fun g=>by omega,fun _=>⟨by rw [a3];exact e1,by unfold bq.items at e2 ⊢;rw [a7];exact e2⟩,by rw [a8,hbegun];simp;omega,fun _=>?_,fun g=>?_,fun g=>by omega,fun _=>?_,fun g=>by omega,fun g=>by omega,fun g=>⟨c',a10,by omega⟩,fun d hd=>?_,fun g=>?_⟩
   ·rw [a9,a12,hyw]
    cases hcw':c'.writing with
    | true =>
     have:=hle hcw'
     refine⟨hb.1,?_,?_,fun _=>?_⟩
     ·rw [if_pos rfl];omega
     ·rw [if_pos rfl];show _≤m'.n;omega
     ·rw [if_pos rfl];omega
    | false =>
     refine⟨hb.1,?_,?_,fun g=>(by cases g)⟩
     ·rw [if_neg (by decide)];exact hb.2.1
     ·rw [if_neg (by decide)];show _≤m'.n
      have h1:m.n≤m'.n:=hTT
      omega
   ·rcases a11 with a11 | a11
    ·exact a11.2.2
    ·omega
   ·have e:y.at_=if c'.writing=true then c'.now else x.stamp:=by
     unfold bq.at_
     rw [hyw,a12]
     cases c'.writing <;> simp
    rw [e,a3,a4]
    refine⟨fun p hp=>?_,hin⟩
    obtain⟨z,hz,rfl⟩:=List.mem_map.1 hp
    have hz':z∈c'.seen:=by rw [r3.seen,c1];exact hz
    cases hcw':c'.writing with
    | true=>rw [if_pos rfl];exact r2.good3 hcw' z hz'
    | false =>
     rw [if_neg (by decide)]
     have h1:=r2.good1 hcw' z hz'
     rw [r3.stamp] at h1
     have:c.writing=false:=by
      rcases r4 with ⟨_,g,_⟩ | ⟨_,_,g,_⟩
      ·rw [←g];exact hcw'
      ·rw [hcw'] at g;cases g
     rw [c4 this] at h1
     exact h1
   ·rw [a10] at hd
    cases hd
    refine⟨by rw [a3];exact r2,by rw [r3.seen,c1,a4],by rw [r3.cells,c2,a3],fun g=>by rw [a12,if_pos g],fun g=>?_,hy6,by rw [a9,r3.stamp];exact c6⟩
    rw [r3.stamp,a12,if_neg (by rw [g];decide)]
    refine c4 ?_
    rcases r4 with ⟨_,g2,_⟩ | ⟨_,_,g2,_⟩
    ·rw [←g2];exact g
    ·rw [g] at g2;cases g2
   ·rcases a11 with a11 | ⟨a11,a13,a14⟩
    ·omega
    ·refine⟨?_,fun g2=>?_,fun g2 g3=>?_,fun d hd=>?_⟩
     ·have:=r2.fin;omega
     ·rw [hyw] at g2
      rcases r2.wr.1 g2 with g | ⟨g,_⟩
      ·omega
      ·omega
     ·rw [hyw] at g3
      have:=r2.wr.2 (.inl (by omega))
      rw [this] at g3;cases g3
     ·rw [a10] at hd;cases hd;exact a13
  ·rcases r4 with ⟨g1,g2,g3⟩ | ⟨g1,g2,g3,g4⟩
   ·refine .inl ⟨g1,by rw [hyw,hcw];exact g2,fun g=>⟨?_,a3⟩⟩
    rw [hcw] at g
    rw [a12,if_pos (by rw [g2];exact g),g3 g,c3 g]
   ·refine .inr ⟨?_,by rw [hcw];exact g2,by rw [hyw];exact g3,?_,hbegun⟩
    ·rw [a12,if_pos g3,a3,←c2];exact g1
    ·rw [a12,if_pos g3];exact g4
 have hwrap:c'.writing=true→IntKind.wrap .u64 (c'.now+1)=c'.now+1:=fun g=>by
  have h1:=r2.le (.inl g)
  have h2:=r2.stamp
  have h3:c'.now+1≤m'.n:=h1.2
  exact PM (by omega) (by omega)
 have hmark:∀y:bq,y.inn=.com c'→y.state≠8→y.stamp=x.stamp→jR y={ y with stamp:=if c'.writing=true then c'.now+1 else x.stamp }:=fun y hy h8 hst=>by
  show (if y.wr=true then { y with stamp:=y.inn.stamp } else y)=_
  have e:y.wr=c'.writing:=by
   show (!decide (y.state=8) && y.inn.wr)=_
   rw [hy,hw2];simp [h8]
  rw [e]
  cases hcw':c'.writing with
  | true=>rw [if_pos rfl,if_pos rfl,hy];rw [show (tH.com c').stamp=c'.now+1 by show (if c'.writing=true then IntKind.wrap .u64 (c'.now+1) else 0)=_;rw [if_pos hcw',hwrap hcw']]
  | false=>rw [if_neg (by decide),if_neg (by decide),←hst]
 have hfin:=r2.fin
 unfold fZ
 by_cases f0:c'.pat.fin=0
 ·rw [if_pos (by exact f0),hmark { x with inn:=.com c' } rfl (by show x.state≠8;omega) rfl]
  exact key _ rfl rfl rfl rfl rfl rfl rfl rfl rfl rfl (.inl ⟨hs,f0,h.fin0 (by omega)⟩) rfl
 ·rw [if_neg (by exact f0)]
  by_cases f5:c'.pat.fin=5
  ·rw [if_pos (by exact f5),hmark (hN { x with inn:=.com c' } 5 0 _) rfl (by simp) rfl]
   exact key _ rfl rfl rfl rfl rfl rfl rfl rfl rfl rfl (.inr ⟨rfl,f0,f5.symm⟩) rfl
  ·rw [if_neg (by exact f5)]
   show sC S h0 n m L X i x (jR (hN { x with inn:=.com c' } c'.pat.fin c'.pat.err (-1))) m' L'
   rw [hmark (hN { x with inn:=.com c' } _ _ _) rfl (by simp) rfl]
   exact key _ rfl rfl rfl rfl rfl rfl rfl rfl rfl rfl (.inr ⟨rfl,f0,rfl⟩) rfl
theorem QJ (hS:ig S n m.l.length m.w.length)(hn:i<n)(hsl:n≤m.s.length)(hT:m.n<4611686018427387904)(hi:fJ (iq S) h0 n (dz m L X))(hX:X i=Co x.inn)(h:jq S h0 n (dz m L X) m.l.length m.w.length i x)(h8:x.state≠8) :
  nI x (az m (cn x).1).2∧∃L',sC S h0 n m L X i x (bm x (az m (cn x).1).2) (az m (cn x).1).1 L':=by
 have hst:=h.st
 have hme:=h.me
 have ep:∀w,∃c,az m ⟨9,x.me,0,w,ah,ah⟩=({ m with s:=m.s.set x.me.toNat w,count:=c },iS):=fun w=>QH ⟨by omega,by omega⟩
 by_cases c0:x.state=0
 ·have en:(cn x).1=⟨9,x.me,0,1,ah,ah⟩:=by unfold cn;rw [if_pos c0]
  rw [en]
  obtain⟨c,e⟩:=ep 1
  rw [e]
  have et:bm x iS={ x with state:=1 }:=by unfold bm;rw [if_neg (by omega),if_pos c0]
  obtain⟨f1,f2,f3⟩:=h.fresh (by omega)
  have hb:x.begun=false:=by rw [h.begun,c0];rfl
  refine⟨⟨rfl,fun g=>by omega,fun g=>absurd c0 g⟩,L,?_⟩
  rw [et]
  refine .quiet hX rfl rfl ⟨rfl,fun _=>⟨rfl,rfl⟩⟩ ⟨fun g=>⟨g,rfl⟩,fun g g2=>(by rw [show ({ x with state:=1 }:bq).begun=x.begun from rfl,g] at g2;cases g2)⟩ ?_ rfl
  refine⟨h.me,h.s,⟨by simp,by simp⟩,h.vok,h.kok,h.vsz,h.rd,h.blk,fun _=>h.run (by omega),h.ends,by show x.begun=_;rw [hb];rfl,fun g=>by simp at g,fun _=>h.fin0 (by omega),fun _=>⟨f1,f2,f3⟩,fun g=>by simp at g,fun g=>by simp at g,fun g=>by simp at g,fun g=>by simp at g,fun c hc=>?_,fun g=>by simp at g⟩
  have hc:x.inn=.com c:=hc
  rw [f1] at hc;cases hc
 by_cases c1:x.state=1
 ·have en:(cn x).1=⟨6,0,0,0,ah,ah⟩:=by unfold cn;rw [if_neg c0,if_pos c1]
  rw [en]
  have e:∃c,az m ⟨6,0,0,0,ah,ah⟩=({ m with count:=c },⟨m.n,ah,false,0⟩):=⟨_,rfl⟩
  obtain⟨c,e⟩:=e
  rw [e]
  have et:bm x ⟨m.n,ah,false,0⟩={ x with begun:=true,beg:=m.n,stamp:=m.n,state:=2 }:=by unfold bm;rw [if_neg (by omega),if_neg c0,if_pos c1]
  obtain⟨f1,f2,f3⟩:=h.fresh (by omega)
  have hb:x.begun=false:=by rw [h.begun,c1];rfl
  refine⟨⟨rfl,fun g=>by omega,fun _ g=>absurd c1 g⟩,L,?_⟩
  rw [et]
  refine .quiet hX rfl rfl ⟨rfl,fun g=>(by rw [f1] at g;cases g)⟩ ⟨fun g=>(by rw [hb] at g;cases g),fun _ _=>⟨rfl,rfl⟩⟩ ?_ rfl
  refine⟨h.me,h.s,⟨by simp,by simp⟩,h.vok,h.kok,h.vsz,h.rd,h.blk,fun _=>h.run (by omega),h.ends,rfl,fun _=>⟨hi.t0,Int.le_refl _,Int.le_refl _,fun g=>?_⟩,fun _=>h.fin0 (by omega),fun _=>⟨f1,f2,f3⟩,fun _=>?_,fun g=>by simp at g,fun g=>by simp at g,fun g=>by simp at g,fun c hc=>?_,fun g=>by simp at g⟩
  ·have g:x.inn.wr=true:=g
   rw [f1] at g;cases g
  ·show qR _ _ _ _ _ _ (SG x.rd) x.v.k
   rw [f2,f3]
   exact .nil
  ·have hc:x.inn=.com c:=hc
   rw [f1] at hc;cases hc
 by_cases c2:x.state=2
 ·have en:(cn x).1=⟨9,x.me,0,IntKind.wrap .u64 (x.stamp+1),ah,ah⟩:=by unfold cn;rw [if_neg c0,if_neg c1,if_pos c2]
  rw [en]
  obtain⟨c,e⟩:=ep (IntKind.wrap .u64 (x.stamp+1))
  rw [e]
  have et:bm x iS=pR x:=by unfold bm;rw [if_neg (by omega),if_neg c0,if_neg c1,if_pos c2]
  obtain⟨f1,f2,f3⟩:=h.fresh (by omega)
  have hcom:x.inn.isCom=false:=by rw [f1]
  obtain⟨w1,w2⟩:=HQ hcom
  have hB:=h.toB (by omega) (by omega) w1
  obtain⟨r1,r2⟩:=IM hS hB (h.run (by omega)) hcom
  refine⟨⟨rfl,fun _=>r1,fun _ _ g=>absurd c2 g⟩,L,?_⟩
  rw [et]
  have:=PV.toR (m:=m) (m':={ m with s:=m.s.set x.me.toNat (IntKind.wrap .u64 (x.stamp+1)),count:=c }) (by rw [hX,w2]) rfl r2 w2 w1 hB.begun rfl rfl
  rw [D0 r2.wr] at this
  exact this
 by_cases c7:x.state=7
 ·have en:(cn x).1=⟨9,x.me,0,0,ah,ah⟩:=by unfold cn;rw [if_neg c0,if_neg c1,if_neg c2,if_pos c7]
  rw [en]
  obtain⟨c,e⟩:=ep 0
  rw [e]
  have et:bm x iS={ x with state:=8 }:=by unfold bm;rw [if_neg h8,if_neg c0,if_neg c1,if_neg c2,if_pos c7]
  refine⟨⟨rfl,fun g=>by omega,fun _ _ _ g=>absurd c7 g⟩,L,?_⟩
  rw [et]
  refine .quiet hX rfl rfl ⟨rfl,fun _=>⟨rfl,rfl⟩⟩ ⟨fun g=>⟨g,rfl⟩,fun g g2=>(by rw [show ({ x with state:=8 }:bq).begun=x.begun from rfl,g] at g2;cases g2)⟩ ?_ rfl
  refine⟨h.me,h.s,⟨by simp,by simp⟩,h.vok,h.kok,h.vsz,h.rd,h.blk,fun g=>by simp at g,h.ends,by show x.begun=_;rw [h.begun];simp;omega,fun _=>h.beg (by omega),fun g=>by simp at g,fun g=>by simp at g,fun _=>h.all (by omega),fun g=>by simp at g,fun g=>by simp at g,fun g=>by simp at g,fun c hc=>?_,fun _=>h.out (by omega)⟩
  obtain⟨a1,a2,a3,a4,a5,a6,a7⟩:=h.isc c hc
  exact⟨a1,a2,a3,a4,a5,by simp,a7⟩
 by_cases c3:x.state=3
 ·obtain⟨r1,r2⟩:=PH hS hi hX h c3;exact⟨r1,L,r2⟩
 by_cases c6:x.state=6
 ·exact RN hn hS.n4 hT hi hX h c6
 ·obtain⟨r1,r2⟩:=Qe hS hi hX h (by omega);exact⟨r1,L,r2⟩
theorem jq.wrote (h:jq S h0 n G nl nw i x){b e:Int}:(gh x b e).wrote=x.inn.wr:=by
 have hc:x.inn.wr=true→x.v.l.cells≠[]:=fun g=>by
  cases hx:x.inn with
  | com c=>obtain⟨a1,_,a3,_⟩:=h.isc c hx;rw [←a3];exact a1.nec
  | _=>rw [hx] at g;cases g
 show (x.done && !(if x.done=true then x.v.l.cells else []).isEmpty)=_
 have hd:x.done=(decide ((if x.state=8 then x.fin else 0)=2) || (!decide (x.state=8) && x.inn.wr)):=rfl
 by_cases h8:x.state=8
 ·obtain⟨o1,o2,o3,o4⟩:=h.out (by omega)
  rw [hd,h8]
  cases hw:x.inn.wr with
  | true=>simp [o2 hw,hc hw]
  | false =>
   by_cases f:x.fin=2
   ·simp [f,o3 f hw]
   ·simp [f]
 ·rw [hd]
  cases hw:x.inn.wr with
  | true=>simp [h8,hc hw]
  | false=>simp [h8]
end
end Go.Proofs.YtoealglbimbbmaaGreatDoor.S
