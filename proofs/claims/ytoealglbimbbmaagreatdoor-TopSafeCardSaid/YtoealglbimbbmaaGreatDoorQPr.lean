import Derived.Test.YtoealglbimbbmaaGreatDoorQTxt
import Derived.Test.YtoealglbimbbmaaGreatDoorQRun
import Derived.Test.YtoealglbimbbmaaGreatDoorCommitW
import Derived.Test.YtoealglbimbbmaaGreatDoorReads
import Derived.Test.YtoealglbimbbmaaGreatDoorMem
import Derived.Test.YtoealglbimbbmaaGreatDoorLimbo
namespace Go.Proofs.YtoealglbimbbmaaGreatDoor.S
open Go Go.Proofs
set_option linter.unusedVariables false
set_option linter.unusedSimpArgs false
inductive rG where
 | none
 | fetch (f:fj)
 | ext (x:ux)
 | com (x:dP)
abbrev rG.fin:rG→Int
 | .none=>0
 | .fetch f=>f.pat.fin
 | .ext f=>f.pat.fin
 | .com f=>f.pat.fin
abbrev rG.by_:rG→Int
 | .none=>0
 | .fetch f=>f.pat.by_
 | .ext f=>f.pat.by_
 | .com f=>f.pat.by_
abbrev rG.next:rG→pD×Bool
 | .none=>(oQ,false)
 | .fetch f=>eB f
 | .ext f=>ia f
 | .com f=>bj f
abbrev rG.tell (a:eW):rG→rG
 | .none=>.none
 | .fetch f=>.fetch (df f a)
 | .ext f=>.ext (dS f a)
 | .com f=>.com (cZ f a)
abbrev rG.ok:rG→Prop
 | .none=>False
 | .fetch _=>True
 | .ext f=>Km f∧f.seen.length≤1000000
 | .com f=>iA f
abbrev rG.wr:rG→Bool
 | .com f=>(f.writing && decide (f.pat.fin=0)) || decide (f.pat.fin=2)
 | _=>false
abbrev rG.isCom:rG→Bool
 | .com _=>true
 | _=>false
abbrev rG.stamp:rG→Int
 | .com m=>if m.writing=true then IntKind.wrap .u64 (m.now+1) else 0
 | _=>0
structure bi where
 me:Int
 s:dr
 run:Option dw
 blocks:List Int
 given:Nat
 v:fa
 rd:List fG
 state:Int
 inn:rG
 begun:Bool
 beg:Int
 stamp:Int
 fin:Int
 by_:Int
 err:Int
 blocking:Bool
def dj (s:dr):dr:=⟨held s.words 32 256,held s.stripes 1 16,held s.wide 1 16,held s.threads 1 4,(fu ⟨s.words,s.stripes,s.wide,s.threads,s.start⟩).start,held s.spins 0 4,held s.writes 0 96,held s.fuel 0 400⟩
theorem tF (s:dr):dj (dj s)=dj s:=by
 unfold dj fu
 simp only [fA (show (32:Int)≤256 by decide),fA (show (1:Int)≤16 by decide),fA (show (1:Int)≤4 by decide),fA (show (0:Int)≤4 by decide),fA (show (0:Int)≤96 by decide),fA (show (0:Int)≤400 by decide)]
 congr 1
 split <;> simp_all
abbrev pZ (me:Int)(s:dr):bi :=
 ⟨me,dj s,none,[],0,⟨(dj s).words.toNat,[],⟨(dj s).writes,⟨[],[]⟩,[]⟩,0⟩,[],0,.none,false,0,0,0,-1,0,false⟩
abbrev iD (me:Int)(s:dr)(p:List dv):bi:={ pZ me s with run:=some (zJ p (dj s).fuel) }
abbrev fR (me:Int)(s:dr)(bs:List Int):bi:={ pZ me s with blocks:=bs }
abbrev bi.wr (x:bi):Bool:=!decide (x.state=8) && x.inn.wr
abbrev bi.done (x:bi):Bool:=decide ((if x.state=8 then x.fin else 0)=2) || x.wr
abbrev bi.freed (x:bi):List Int:=if x.done then (match x.run with | none=>x.blocks | some _=>x.v.l.frees) else []
abbrev bi.items (x:bi):List oT:=match x.run with | none=>[] | some r=>r.items
def tt (x:bi)(s:ByteArray):Prop:=x.done=true→∀r,x.run=some r→Tq r.items s
def Rv (x:bi):ByteArray:=match x.run with | none=>⟨#[]⟩ | some r=>GF r.items
theorem Hh {x:bi}:tt x (Rv x):=fun _ r hr _ _ _=>by unfold Rv;rw [hr]
abbrev fi (x:bi)(e er b:Int):bi:={ x with fin:=e,err:=er,by_:=b,state:=7 }
abbrev qt (x:bi)(c:Int):bi:={ x with inn:=.fetch (JZ x.me c (eD c x.s.stripes x.s.wide) x.s.spins x.stamp),state:=3 }
abbrev rS (x:bi)(st:Int):bi:={ x with inn:=.ext (Pi x.me x.s.spins x.rd),state:=st }
def eU:List Int→Nat→fa→Nat×fa×Int×Int
 | [],g,s=>(g,s,2,0)
 | b::l,g,s=>if (gY s b).2=0 then eU l (g+1) (gY s b).1 else if (gY s b).2=11 then (g,(gY s b).1,1,0) else (g,(gY s b).1,4,(gY s b).2)
def fy (ρ:z6)(x:bi):bi×Int×Int:=match x.run with
 | some r=>({ x with run:=some (ρ r x.v).1,v:=(ρ r x.v).2.1 },(ρ r x.v).2.2,(ρ r x.v).1.err)
 | none=>({ x with given:=(eU (x.blocks.drop x.given) x.given x.v).1,v:=(eU (x.blocks.drop x.given) x.given x.v).2.1 },(eU (x.blocks.drop x.given) x.given x.v).2.2.1,(eU (x.blocks.drop x.given) x.given x.v).2.2.2)
def jr (q:bi×Int×Int):bi :=
 if q.2.1=1 then qt q.1 q.1.v.need
 else if q.2.1=3 then rS { q.1 with blocking:=true } 5
 else if q.2.1=4 then fi q.1 4 q.2.2 (-1)
 else if q.1.v.l.cells=[] then fi q.1 2 0 (-1)
 else { q.1 with inn:=.com (nq q.1.me q.1.s.spins q.1.stamp q.1.rd q.1.v.l.cells (fB (dp q.1.v.l.cells q.1.s.stripes q.1.s.wide) 16)),state:=6 }
def fh (ρ:z6)(x:bi):bi:=jr (fy ρ x)
structure Fd (x:bi):Prop where
 run:∀r,x.run=some r→m7 r x.v
 blocks:x.blocks.length≤1000000∧x.given≤x.blocks.length
 com:x.inn.isCom=false
 rd:x.rd.length≤1000
 vok:Ji x.v
abbrev jI (x:bi)(f:fj):bi:={ x with rd:=ny 16 x.rd ⟨f.stripe,f.lock.version⟩ }
abbrev kE (x:bi)(f:fj):bi:={ jI x f with v:=(lL x.v x.v.need f.word).1 }
def cy (ρ:z6)(x:bi)(f:fj):bi :=
 if f.pat.fin=6 then rS x 4
 else if l7 16 x.rd ⟨f.stripe,f.lock.version⟩=0 then fh ρ (kE x f)
 else if l7 16 x.rd ⟨f.stripe,f.lock.version⟩=14 then fi (jI x f) 5 0 (-1)
 else fi (jI x f) 4 (l7 16 x.rd ⟨f.stripe,f.lock.version⟩) (-1)
structure Jm (x:bi)(f:fj):Prop where
 fin:f.pat.fin=6∨f.pat.fin=2
 rd:x.rd.length≤1000
 known:x.v.k.length≤1000
 work:f.pat.fin=2→l7 16 x.rd ⟨f.stripe,f.lock.version⟩=0→Fd (kE x f)
abbrev gS (ρ:z6)(x:bi):bi:=match x.inn with
 | .none=>x
 | .fetch f=>cy ρ x f
 | .ext e=>if x.state=4 then qt { x with stamp:=e.stamp } x.v.need else fi { x with stamp:=e.stamp } 3 0 (-1)
 | .com m=>fi x m.pat.fin m.pat.err (-1)
abbrev fM (x:bi):bi:=if x.wr=true then { x with stamp:=x.inn.stamp } else x
abbrev dN (ρ:z6)(x:bi):bi:=fM (if x.inn.fin=0 then x else if x.inn.fin=5 then fi x 5 0 x.inn.by_ else gS ρ x)
abbrev ao (ρ:z6)(x:bi)(a:eW):bi :=
 if x.state=8 then x
 else if x.state=0 then { x with state:=1 }
 else if x.state=1 then { x with begun:=true,beg:=a.word,stamp:=a.word,state:=2 }
 else if x.state=2 then fh ρ x
 else if x.state=7 then { x with state:=8 }
 else dN ρ { x with inn:=x.inn.tell a }
abbrev be (x:bi):pD×Bool :=
 if x.state=0 then (⟨9,x.me,0,1,ae,ae⟩,true)
 else if x.state=1 then (⟨6,0,0,0,ae,ae⟩,true)
 else if x.state=2 then (⟨9,x.me,0,IntKind.wrap .u64 (x.stamp+1),ae,ae⟩,true)
 else if x.state=7 then (⟨9,x.me,0,0,ae,ae⟩,true)
 else if x.state=8 then (oQ,false)
 else x.inn.next
structure LF (x:bi):Prop where
 ok:x.inn.ok
 fetch:∀f,x.inn=.fetch f→x.state=3∧(f.pat.fin=0∨f.pat.fin=5∨Jm x f)
 ext:∀e,x.inn=.ext e→(x.state=4∨x.state=5)∧(e.pat.fin=0∨e.pat.fin=5∨e.pat.fin=2)
 com:∀m,x.inn=.com m→x.state=6
structure ni (x:bi)(a:eW):Prop where
 err:a.err=0
 work:x.state=2→Fd x
 inn:x.state≠0→x.state≠1→x.state≠2→x.state≠7→x.state≠8→x.inn.ok∧LF { x with inn:=x.inn.tell a }
structure Ta where
 stamp:Int
 done:Bool
 cells:List av
 born:Int
 ended:Int
 reads:List av
 beg:Int
structure bq where
 me:Int
 s:dr
 jobs:List (List dv)
 job:Int
 state:Int
 sweep:Bool
 rests:List gC
 tries:Int
 conf:Int
 now:Option bi
 born:Int
 alarm:Bool
 past:List Ta
 res:List Lp
 limbo:List gC
 slots:List Int
 by_:Int
 since:Int
 yld:Bool
 pauses:Int
abbrev eP (x:bi)(born ended:Int):Ta:=⟨x.stamp,x.done,if x.done then x.v.l.cells else [],born,ended,x.v.k,x.beg⟩
def dy (x:bq):bq:=match x.jobs[x.job.toNat]? with
 | some p=>{ x with born:=0,alarm:=false,now:=some (if x.sweep=true then fR x.me x.s (x.rests.map (·.place)) else iD x.me x.s p),state:=1 }
 | none=>{ x with born:=0,alarm:=false,now:=none,state:=6 }
structure iO (x:bq):Prop where
 lo:0≤x.job
 hi:x.job≤x.jobs.length
 progs:∀p∈x.jobs,jb p
 rests:x.rests.length≤100000
def lM:Nat→Int
 | 0=>1
 | n+1=>if 8<2*lM n then 8 else 2*lM n
theorem I8:∀n:Nat,1≤lM n∧lM n≤8
 | 0=>by simp [lM]
 | n+1=>by have:=I8 n;unfold lM;split <;> omega
def vV (c:Int):Int:=if 8<c then 8 else c
abbrev lQ (conf draw:Int):Int:=draw.tmod (lM (vV conf).toNat+1)
abbrev ku (x:bq)(draw:Int):bq:=if lQ x.conf draw=0 then dy { x with pauses:=0,state:=3 } else { x with pauses:=lQ x.conf draw,state:=3 }
abbrev eS (x:bq):bq:=if x.state=3 then (if x.pauses=1 then dy { x with pauses:=0 } else { x with pauses:=x.pauses-1 }) else x
abbrev gM (x:bq):bq:=dy { x with job:=x.job+1,sweep:=false,rests:=[],tries:=0,conf:=0 }
abbrev nT (x:bq)(a:eW)(draw:Int):bq:=if a.err=0∧a.word≠0∧(x.yld=false∨a.word=x.since) then { x with yld:=true,since:=a.word } else ku x draw
abbrev dH (x:bq):List Int:=if (x.slots.length:Int)=x.me then x.slots++[0] else x.slots
def kD (x:bq):bq :=
 if ((dH x).length:Int)<x.s.threads then { x with slots:=dH x }
 else if x.limbo.filter (fun r=>dG (dH x) r.stamp)=[] then gM { x with slots:=dH x,limbo:=x.limbo.filter fun r=>!dG (dH x) r.stamp }
 else dy { x with slots:=dH x,limbo:=x.limbo.filter (fun r=>!dG (dH x) r.stamp),sweep:=true,rests:=x.limbo.filter (fun r=>dG (dH x) r.stamp),tries:=0,conf:=0 }
abbrev sQ (x:bq):bq:=if x.limbo=[] then gM x else kD { x with state:=5,slots:=[] }
abbrev lq (x:bq)(since:Int):bq:=kD { x with slots:=x.slots++[since] }
abbrev sE (x:bq)(e:Int):bq:=if e=4 then gM { x with limbo:=x.limbo++x.rests } else gM x
def gO (x:bq)(a:bi)(draw pick:Int)(sl:ByteArray):bq :=
 if a.fin=5 then (if 0≤a.by_∧a.by_<x.s.threads then { x with past:=x.past++[eP a x.born pick],tries:=IntKind.wrap .i64 (x.tries+1),conf:=IntKind.wrap .i64 (x.conf+1),state:=2,by_:=a.by_,yld:=false } else ku { x with past:=x.past++[eP a x.born pick],tries:=IntKind.wrap .i64 (x.tries+1),conf:=IntKind.wrap .i64 (x.conf+1) } draw)
 else if a.fin=3 then (if x.alarm=true then dy { x with past:=x.past++[eP a x.born pick],tries:=IntKind.wrap .i64 (x.tries+1) } else { x with past:=x.past++[eP a x.born pick],tries:=IntKind.wrap .i64 (x.tries+1),state:=4 })
 else if x.sweep=true then sE { x with past:=x.past++[eP a x.born pick],tries:=IntKind.wrap .i64 (x.tries+1) } a.fin
 else sQ { x with past:=x.past++[eP a x.born pick],tries:=IntKind.wrap .i64 (x.tries+1),res:=x.res++[⟨a.fin,a.err,sl,a.stamp⟩],limbo:=x.limbo++a.freed.map fun n=>⟨n,a.stamp⟩ }
abbrev az (x:bq):pD×Bool :=
 if x.state=1 then (match x.now with | some a=>be a | none=>(oQ,false))
 else if x.state=2 then (⟨8,x.by_,0,0,ae,ae⟩,true)
 else if x.state=5 then (⟨8,x.slots.length,0,0,ae,ae⟩,true)
 else (oQ,false)
abbrev kw (x:bq)(a a':bi)(draw pick:Int)(sl:ByteArray):bq :=
 if a'.state=8∧a'.fin≠0 then gO { x with now:=some a',born:=if a'.begun && !a.begun then pick else x.born } a' draw pick sl else { x with now:=some a',born:=if a'.begun && !a.begun then pick else x.born }
abbrev thrTell (ρ:z6)(x:bq)(a:eW)(draw pick:Int)(sl:ByteArray):bq :=
 if x.state=1 then (match x.now with | some at_=>kw x at_ (ao ρ at_ a) draw pick sl | none=>x)
 else if x.state=2 then nT x a draw
 else if x.state=5 then lq x (if a.err=0 then a.word else 0) else x
structure BM (a:bi):Prop where
 gone:a.state=8
 fin:a.fin≠0
 known:a.v.k.length≤1000
 cells:a.v.l.cells.length≤1000
 frees:a.done=true→a.v.l.frees.length≤1000
 blocks:a.blocks.length≤100000
 items:a.done=true→AC a.items
structure DM (x:bq)(a:eW):Prop where
 jobs:iO x
 few:x.jobs.length≤1000000
 past:x.past.length≤1000000
 res:x.res.length≤1000000
 limbo:x.limbo.length+x.rests.length≤80000
 slots:x.state=5→x.slots.length≤4∧0≤x.me∧x.s.threads≤4
 run:x.state=1→x.job<x.jobs.length∧x.s.threads≤4∧0≤x.me∧∃at_,x.now=some at_∧ni at_ a∧∀ρ,cx ρ→(ao ρ at_ a).state=8→BM (ao ρ at_ a)∧(x.sweep=false→(ao ρ at_ a).freed.length≤1000)
 look:x.state=5→x.job<x.jobs.length
abbrev GM (l:List fG)(s ver:Int):Bool:=l.any fun z=>decide (z.stripe=s) && !decide (z.version=ver)
def dX (x:bq)(s ver:Int):bq:=match x.now with
 | none=>x
 | some a=>if GM a.rd s ver=true then (if x.state=4 then dy x else if x.state=1∧(!decide (a.state=8) && a.blocking)=true then { x with alarm:=true } else x) else x
abbrev j5 (me:Int)(s:dr)(jobs:List (List dv)):bq:=gM ⟨me,dj s,jobs,-1,0,false,[],0,0,none,0,false,[],[],[],[],0,0,false,0⟩
structure io where
 s:dr
 mem:fE
 thr:List bq
 picks:Int
 last:pD
 did:Bool
def iL (i:Nat)(s ver:Int)(k:Nat)(l:List bq):List bq:=l.mapIdx fun j u=>if j<k∧j≠i then dX u s ver else u
def fN (ρ:z6)(x:io)(i:Nat)(t:bq)(draw:Int)(sl:ByteArray):io:={ x with mem:=(ay x.mem (az t).1).1,thr:=if (az t).1.kind=5 then iL i (az t).1.place (az t).1.lock.version x.thr.length (x.thr.set i (thrTell ρ t (ay x.mem (az t).1).2 draw (x.picks+1) sl)) else x.thr.set i (thrTell ρ t (ay x.mem (az t).1).2 draw (x.picks+1) sl),picks:=x.picks+1,last:=(az t).1,did:=true }
abbrev jJ (x:io)(i:Nat)(t:bq):io:={ x with thr:=x.thr.set i (eS t),picks:=x.picks+1,last:=(az t).1,did:=false }
structure QZ (x:io)(i:Nat)(t:bq):Prop where
 at_:x.thr[i]? = some t
 few:x.thr.length≤4
 picks:0≤x.picks∧x.picks<1000000000
 run:t.state=1→∃a,t.now=some a∧(a.state≠0→a.state≠1→a.state≠2→a.state≠7→a.state≠8→a.inn.ok)
 slots:t.state=5→t.slots.length≤4
 jobs:iO t
 pauses:(az t).2=false→t.state=3→1≤t.pauses∧t.pauses≤100
 hear:(az t).2=true→DM t (ay x.mem (az t).1).2
 others:∀k u,x.thr[k]? = some u→k≠i→iO u∧∀a,u.now=some a→a.rd.length≤1000
abbrev kC (m:fE)(k:Nat):fE:=if k≤5 then m else (ay m ⟨2,5,0,14,ae,ae⟩).1
abbrev cq (s:dr)(rows:Nat):dr:=dj { s with threads:=rows }
abbrev dr.shape (s:dr):jw:=⟨s.words,s.stripes,s.wide,s.threads,s.start⟩
def iC (s:dr):Nat→List (List (List dv))→List bq
 | _,[]=>[]
 | i,r::l=>j5 i s r::iC s (i+1) l
abbrev dc (s:dr)(rows:List (List (List dv))):io :=
 ⟨cq s rows.length,kC (lS (cq s rows.length).shape) 6,iC (cq s rows.length) 0 rows,0,⟨0,0,0,0,⟨0,false,0⟩,⟨0,false,0⟩⟩,false⟩
abbrev dh (t:bq):List Ta:=t.past++(if t.state=1 then (match t.now with | some a=>if a.begun=true then [eP a t.born 0] else [] | none=>[]) else [])
abbrev jN (x:io):List Ta:=x.thr.flatMap dh
end Go.Proofs.YtoealglbimbbmaaGreatDoor.S
namespace Go.Proofs.YtoealglbimbbmaaGreatDoor.S
open Go Go.Proofs
set_option linter.unusedVariables false
set_option linter.unusedSimpArgs false
section
variable {s:fa}
theorem Vg.gives:∀{l:List Int}{g:Nat}{s:fa},Vg s→Vg (eU l g s).2.1
 | [],_,_,h=>h
 | b::l,g,s,h=>by
  unfold eU
  split
  ·exact Vg.gives h.give
  ·split <;> exact h.give
end
def TF:rG→Prop
 | .fetch f=>mf f.word
 | .com m=>Cw m.cells
 | _=>True
structure jk (a:bi):Prop where
 run:∀r,a.run=some r→Rg r
 v:Vg a.v
 inn:TF a.inn
section
variable {x:bi}{m:fE}{o:pD}{c:dP}{f:fj}{an:eW}{ρ:z6}
theorem Dv:(im c).cells=c.cells:=by unfold im;split <;> rfl
theorem wT {e er b:Int}:(fZ c e er b).cells=c.cells:=by unfold fZ;rw [Dv]
theorem Gh {l:cX}:(ji c l).cells=c.cells:=by unfold ji;split;rfl;rw [wT]
theorem GW:(je c).cells=c.cells:=by unfold je;split <;> rfl
theorem D3:(jB c).cells=c.cells:=by unfold jB;split;rw [GW];rfl
theorem El:(oe c).cells=c.cells:=by unfold oe;rw [D3]
theorem Kg:∀{n:Nat}{c:dP},(kH n c).cells=c.cells
 | 0,_=>El
 | n+1,c=>by
  unfold kH
  split
  ·rfl
  ·split
   ·rw [Kg]
   ·exact wT
theorem EZ:(n8 c).cells=c.cells:=by unfold n8;rw [Kg]
theorem JB {l:cX}:(lf c l).cells=c.cells:=by
 unfold lf
 split
 ·exact Gh
 ·split
  ·rw [EZ]
  ·exact wT
theorem OQ:(py c an).cells=c.cells:=by
 unfold py
 split
 ·split
  ·exact Gh
  ·rfl
 ·split <;> rfl
abbrev UJ (c z:dP):Prop:=z.cells=c.cells
theorem Ly:(lX c an).cells=c.cells:=by
 unfold lX
 refine da (P:=UJ c) (fun _=>da (P:=UJ c) (fun _=>wT) fun _=>rfl) fun _=>da (P:=UJ c) (fun _=>rfl) fun _=>da (P:=UJ c) (fun _=>El) fun _=>EZ
theorem Nk:(cZ c an).cells=c.cells:=by
 unfold cZ
 refine da (P:=UJ c) (fun _=>?_) fun _=>rfl
 split
 ·exact OQ
 split
 ·exact Ly
 split
 ·exact JB
 split
 ·exact D3
 split
 ·exact GW
 ·exact Dv
theorem Tk (hm:∀n∈m.w,mf n){k:Nat}:mf (m.w.getD k 0):=by
 rw [List.getD_eq_getElem?_getD]
 cases e:m.w[k]? with
 | none=>exact Iq
 | some n=>exact hm n (List.mem_of_getElem? e)
abbrev Je (z:fE×eW):Prop:=∀n∈z.1.w,mf n
theorem SJ (hm:∀n∈m.w,mf n)(ho:o.kind=2→mf o.word):∀n∈(ay m o).1.w,mf n:=by
 have h1:Je (bz m o):=by
  unfold bz
  refine da (P:=Je) (fun _=>da (P:=Je) (fun _=>hm) fun _=>hm) fun _=>?_
  refine da (P:=Je) (fun h2=>da (P:=Je) (fun _ n hn=>(List.mem_or_eq_of_mem_set hn).elim (hm n) fun e=>by rw [e];exact ho h2) fun _=>hm) fun _=>?_
  refine da (P:=Je) (fun _=>hm) fun _=>da (P:=Je) (fun _=>hm) fun _=>da (P:=Je) (fun _=>hm) fun _=>da (P:=Je) (fun _=>hm) fun _=>?_
  refine da (P:=Je) (fun _=>da (P:=Je) (fun _=>hm) fun _=>da (P:=Je) (fun _=>hm) fun _=>da (P:=Je) (fun _=>hm) fun _=>hm) fun _=>?_
  exact da (P:=Je) (fun _=>da (P:=Je) (fun _=>hm) fun _=>hm) fun _=>da (P:=Je) (fun _=>da (P:=Je) (fun _=>hm) fun _=>hm) fun _=>hm
 unfold ay
 split <;> exact h1
theorem Pf (hm:∀n∈m.w,mf n)(ho:o.kind=1):mf (ay m o).2.word:=by
 have h1:mf (bz m o).2.word:=by
  unfold bz
  rw [if_pos ho]
  split
  ·exact Tk hm
  ·exact Iq
 unfold ay
 split <;> exact h1
theorem Ks {p:nU}{e:Int}(h:(p.stopped e).fin=0):p.fin=0:=by
 unfold nU.stopped at h
 split at h
 ·rename_i g;exact g.1
 ·exact h
theorem Rn {l:cX}:(kJ f l).word=f.word:=by
 unfold kJ
 exact da (P:=fun z:fj=>z.word=f.word) (fun _=>da (P:=fun z:fj=>z.word=f.word) (fun _=>rfl) fun _=>rfl) fun _=>da (P:=fun z:fj=>z.word=f.word) (fun _=>rfl) fun _=>rfl
theorem TF.tell (hm:∀n∈m.w,mf n):∀{i:rG},TF i→TF (i.tell (ay m i.next.1).2)
 | .none,_=>trivial
 | .ext _,_=>trivial
 | .com c,h=>by
  show Cw (cZ c _).cells
  rw [Nk];exact h
 | .fetch f,h=>by
  show mf (df f (ay m (eB f).1).2).word
  unfold df
  split
  ·rename_i h0
   have hf:=Ks h0
   split
   ·rename_i h1
    refine Pf hm ?_
    unfold eB
    rw [if_pos hf,if_pos h1]
   ·split
    ·exact h
    ·rw [Rn];exact h
  ·exact h
theorem TF.next:∀{i:rG},TF i→i.next.1.kind=2→mf i.next.1.word
 | .none,_,g=>by cases g
 | .ext e,_,g=>by
  have g:(ia e).1.kind=2:=g
  unfold ia at g
  split at g
  ·split at g <;> cases g
  ·cases g
 | .fetch f,_,g=>by
  have g:(eB f).1.kind=2:=g
  unfold eB at g
  split at g
  ·split at g <;> cases g
  ·cases g
 | .com c,h,g=>by
  have g:(bj c).1.kind=2:=g
  show mf (bj c).1.word
  unfold bj at g ⊢
  split at g
  ·rename_i h0
   rw [if_pos h0]
   have hc:mf (c.cells.getD c.pos ⟨0,0⟩).word:=by
    rw [List.getD_eq_getElem?_getD]
    cases e:c.cells[c.pos]? with
    | none=>exact Iq
    | some z=>exact h z (List.mem_of_getElem? e)
   simp only at g ⊢
   by_cases c0:c.state=0
   ·rw [if_pos c0] at g;cases g
   by_cases c1:c.state=1
   ·rw [if_neg c0,if_pos c1] at g;cases g
   by_cases c2:c.state=2
   ·rw [if_neg c0,if_neg c1,if_pos c2] at g;cases g
   by_cases c3:c.state=3
   ·rw [if_neg c0,if_neg c1,if_neg c2,if_pos c3] at g;cases g
   by_cases c4:c.state=4
   ·rw [if_neg c0,if_neg c1,if_neg c2,if_neg c3,if_pos c4] at g;cases g
   by_cases c5:c.state=5
   ·rw [if_neg c0,if_neg c1,if_neg c2,if_neg c3,if_neg c4,if_pos c5];exact hc
   ·rw [if_neg c0,if_neg c1,if_neg c2,if_neg c3,if_neg c4,if_neg c5] at g
    split at g <;> cases g
  ·cases g
theorem jk.out (h:jk x){e er b:Int}:jk (fi x e er b):=⟨h.run,h.v,h.inn⟩
theorem jk.ask (h:jk x){c:Int}:jk (qt x c):=⟨h.run,h.v,Iq⟩
theorem jk.later (h:jk x){s:Int}:jk (rS x s):=⟨h.run,h.v,trivial⟩
theorem jk.did {q:bi×Int×Int}(h:jk q.1):jk (jr q):=by
 unfold jr
 refine da (fun _=>h.ask) fun _=>da (fun _=>?_) fun _=>da (fun _=>h.out) fun _=>da (fun _=>h.out) fun _=>?_
 ·exact⟨h.run,h.v,trivial⟩
 ·exact⟨h.run,h.v,Qv h.v.l⟩
theorem jk.work (hρ:cx ρ)(h:jk x):jk (fh ρ x):=by
 unfold fh
 refine jk.did ?_
 unfold fy
 cases e:x.run with
 | none=>exact⟨fun r g=>(by cases g),h.v.gives,h.inn⟩
 | some r =>
  have h1:=hρ.u r x.v (h.run r e) h.v
  exact⟨fun r g=>(by cases g;exact h1.1),h1.2,h.inn⟩
theorem jk.fetched (hρ:cx ρ)(h:jk x)(hf:mf f.word):jk (cy ρ x f):=by
 unfold cy
 refine da (fun _=>h.later) fun _=>da (fun _=>jk.work hρ ⟨h.run,h.v.know hf,h.inn⟩) fun _=>da (fun _=>?_) fun _=>?_
 ·exact⟨h.run,h.v,h.inn⟩
 ·exact⟨h.run,h.v,h.inn⟩
theorem jk.ended (hρ:cx ρ)(h:jk x):jk (gS ρ x):=by
 unfold gS
 have hi:=h.inn
 cases e:x.inn with
 | none=>exact h
 | fetch f=>rw [e] at hi;exact h.fetched hρ hi
 | ext m=>exact da (fun _=>⟨h.run,h.v,Iq⟩) fun _=>⟨h.run,h.v,trivial⟩
 | com m=>exact h.out
theorem jk.mark (h:jk x):jk (fM x):=by
 unfold fM
 exact da (fun _=>⟨h.run,h.v,h.inn⟩) fun _=>h
theorem jk.tell (hρ:cx ρ)(h:jk x)(hi:TF (x.inn.tell an)):jk (ao ρ x an):=by
 unfold ao
 refine da (fun _=>h) fun _=>da (fun _=>⟨h.run,h.v,h.inn⟩) fun _=>da (fun _=>⟨h.run,h.v,h.inn⟩) fun _=>da (fun _=>h.work hρ) fun _=>da (fun _=>⟨h.run,h.v,h.inn⟩) fun _=>?_
 unfold dN
 have h2:jk { x with inn:=x.inn.tell an }:=⟨h.run,h.v,hi⟩
 exact jk.mark (da (fun _=>h2) fun _=>da (fun _=>h2.out) fun _=>h2.ended hρ)
theorem jk.items (h:jk x):∀n∈x.items,xZ n:=by
 unfold bi.items
 cases e:x.run with
 | none=>simp
 | some r=>exact(h.run r e).items
end
structure fF (t:bq):Prop where
 jobs:∀p∈t.jobs,∀i∈p,mf i.n
 now:∀a,t.now=some a→jk a
structure rX (x:io):Prop where
 mem:∀n∈x.mem.w,mf n
 thr:∀t∈x.thr,fF t
section
variable {x:bq}{m:io}{t u:bq}{a:bi}{an:eW}{draw pick:Int}{sl:ByteArray}{i:Nat}{ρ:z6}
theorem MQ {me:Int}{s:dr}:Vg (pZ me s).v:=⟨.nil,fun r hr=>by
 rcases List.mem_cons.1 hr with e | e
 ·rw [e];exact .nil
 ·cases e⟩
theorem fF.again (h:fF x):fF (dy x):=by
 unfold dy
 cases e:x.jobs[x.job.toNat]? with
 | none=>exact⟨h.jobs,fun a g=>(by cases g)⟩
 | some p =>
  refine⟨h.jobs,fun a g=>?_⟩
  simp only [Option.some.injEq] at g
  subst g
  refine da (fun _=>⟨fun r g=>(by cases g),MQ (me:=x.me),trivial⟩) fun _=>⟨fun r g=>?_,MQ (me:=x.me),trivial⟩
  cases g
  refine⟨fun k=>?_,by simp,h.jobs p (List.mem_of_getElem? e)⟩
  show mf (CR.get ⟨0,0,0,0,0,0,0,0⟩ k)
  unfold CR.get
  split <;> exact Iq
theorem fF.eqs (h:fF x)(h1:u.jobs=x.jobs)(h2:u.now=x.now):fF u:=⟨by rw [h1];exact h.jobs,by rw [h2];exact h.now⟩
theorem fF.pause (h:fF x):fF (ku x draw):=by
 unfold ku
 exact da (fun _=>fF.again (h.eqs rfl rfl)) fun _=>h.eqs rfl rfl
theorem fF.rest (h:fF x):fF (eS x):=by
 unfold eS
 exact da (fun _=>da (fun _=>fF.again (h.eqs rfl rfl)) fun _=>h.eqs rfl rfl) fun _=>h
theorem fF.follow (h:fF x):fF (gM x):=fF.again (h.eqs rfl rfl)
theorem fF.yield (h:fF x):fF (nT x an draw):=by
 unfold nT
 exact da (fun _=>h.eqs rfl rfl) fun _=>h.pause
theorem fF.look (h:fF x):fF (kD x):=by
 unfold kD
 exact da (fun _=>h.eqs rfl rfl) fun _=>da (fun _=>fF.follow (h.eqs rfl rfl)) fun _=>fF.again (h.eqs rfl rfl)
theorem fF.over (h:fF x):fF (sQ x):=by
 unfold sQ
 exact da (fun _=>h.follow) fun _=>fF.look (h.eqs rfl rfl)
theorem fF.ended (h:fF x):fF (gO x a draw pick sl):=by
 unfold gO
 refine da (fun _=>da (fun _=>h.eqs rfl rfl) fun _=>fF.pause (h.eqs rfl rfl)) fun _=>da (fun _=>da (fun _=>fF.again (h.eqs rfl rfl)) fun _=>h.eqs rfl rfl) fun _=>da (fun _=>?_) fun _=>fF.over (h.eqs rfl rfl)
 unfold sE
 exact da (fun _=>fF.follow (h.eqs rfl rfl)) fun _=>fF.follow (h.eqs rfl rfl)
theorem fF.wake {s v:Int}(h:fF x):fF (dX x s v):=by
 unfold dX
 cases e:x.now with
 | none=>exact h
 | some a=>exact da (fun _=>da (fun _=>h.again) fun _=>da (fun _=>h.eqs rfl e.symm) fun _=>h) fun _=>h
theorem rX.ans (hρ:cx ρ)(h:rX m)(ht:t∈m.thr)(h1:t.state=1)(ha:t.now=some a):jk (ao ρ a (ay m.mem (be a).1).2):=by
 have hA:=(h.thr t ht).now a ha
 by_cases c:a.state=8∨a.state=0∨a.state=1∨a.state=2∨a.state=7
 ·
  rcases c with c | c | c | c | c
  all_goals
   unfold ao
   simp only [c,Int.reduceEq,if_false,if_true]
  ·exact hA
  ·exact⟨hA.run,hA.v,hA.inn⟩
  ·exact⟨hA.run,hA.v,hA.inn⟩
  ·exact hA.work hρ
  ·exact⟨hA.run,hA.v,hA.inn⟩
 ·have e:be a=a.inn.next:=by
   unfold be
   rw [if_neg (fun g=>c (.inr (.inl g))),if_neg (fun g=>c (.inr (.inr (.inl g)))),if_neg (fun g=>c (.inr (.inr (.inr (.inl g))))),if_neg (fun g=>c (.inr (.inr (.inr (.inr g))))),if_neg (fun g=>c (.inl g))]
  rw [e]
  exact hA.tell hρ (hA.inn.tell h.mem)
abbrev TV (z:pD×Bool):Prop:=z.1.kind=2→mf z.1.word
theorem rX.op (h:rX m)(ht:t∈m.thr):(az t).1.kind=2→mf (az t).1.word:=by
 unfold az
 by_cases c1:t.state=1
 ·rw [if_pos c1]
  cases ha:t.now with
  | none=>intro g;cases g
  | some a =>
   have hA:=(h.thr t ht).now a ha
   simp only
   unfold be
   refine da (P:=TV) (fun _ g=>(by cases g)) fun _=>da (P:=TV) (fun _ g=>(by cases g)) fun _=>da (P:=TV) (fun _ g=>(by cases g)) fun _=>da (P:=TV) (fun _ g=>(by cases g)) fun _=>da (P:=TV) (fun _ g=>(by cases g)) fun _=>hA.inn.next
 ·rw [if_neg c1]
  exact da (P:=TV) (fun _ g=>(by cases g)) fun _=>da (P:=TV) (fun _ g=>(by cases g)) fun _ g=>(by cases g)
theorem rX.thrTell (hρ:cx ρ)(h:rX m)(ht:t∈m.thr):fF (thrTell ρ t (ay m.mem (az t).1).2 draw pick sl):=by
 have hT:=h.thr t ht
 unfold S.thrTell
 by_cases c1:t.state=1
 ·rw [if_pos c1]
  cases ha:t.now with
  | none=>exact hT
  | some a =>
   have en:az t=be a:=by unfold az;rw [if_pos c1,ha]
   have hU:=h.ans hρ ht c1 ha
   rw [en]
   simp only
   unfold kw
   have h2:fF { t with now:=some (ao ρ a (ay m.mem (be a).1).2),born:=if (ao ρ a (ay m.mem (be a).1).2).begun && !a.begun then pick else t.born }:=⟨hT.jobs,fun b g=>(by cases g;exact hU)⟩
   exact da (fun _=>h2.ended) fun _=>h2
 ·rw [if_neg c1]
  refine da (fun _=>hT.yield) fun _=>da (fun _=>?_) fun _=>hT
  unfold lq
  exact fF.look (hT.eqs rfl rfl)
theorem PD {k j:Nat}{s v:Int}{l:List bq}(h:∀t∈l,fF t):∀t∈iL j s v k l,fF t:=fun t ht=>by
 unfold iL at ht
 obtain⟨q,hq,rfl⟩:=List.mem_mapIdx.1 ht
 exact da (fun _=>(h _ (List.getElem_mem _)).wake) fun _=>h _ (List.getElem_mem _)
theorem Ms {l:List bq}(h:∀t∈l,fF t)(hu:fF u):∀t∈l.set i u,fF t:=fun t ht=>(List.mem_or_eq_of_mem_set ht).elim (h t) fun e=>by rw [e];exact hu
theorem rX.step (hρ:cx ρ)(h:rX m)(ht:m.thr[i]? = some t):rX (if (az t).2=true then fN ρ m i t draw sl else jJ m i t):=by
 have hm:=List.mem_of_getElem? ht
 refine da (fun _=>?_) fun _=>?_
 ·unfold fN
  refine⟨SJ h.mem (h.op hm),?_⟩
  have h2:=Ms (i:=i) h.thr (h.thrTell hρ (draw:=draw) (pick:=m.picks+1) (sl:=sl) hm)
  exact da (P:=fun l:List bq=>∀t∈l,fF t) (fun _=>PD h2) fun _=>h2
 ·exact⟨h.mem,Ms h.thr (h.thr t hm).rest⟩
theorem rX.new {s:dr}{rows:List (List (List dv))}(hr:∀r∈rows,∀p∈r,∀i∈p,mf i.n):rX (dc s rows):=by
 refine⟨?_,?_⟩
 ·show ∀n∈(kC (lS _) 6).w,mf n
  refine SJ (o:=⟨2,5,0,14,ae,ae⟩) (fun n hn=>?_) (fun _=>⟨by decide,by decide⟩)
  rw [List.eq_of_mem_replicate hn];exact Iq
 ·have key:∀{l:List (List (List dv))} {S:dr} {k:Nat},(∀r∈l,∀p∈r,∀i∈p,mf i.n)→∀t∈iC S k l,fF t:=fun {l}=>by
   induction l with
   | nil=>intro S k _ t ht;cases ht
   | cons r l ih =>
    intro S k h t ht
    rcases List.mem_cons.1 ht with e | e
    ·rw [e]
     exact fF.follow ⟨h r List.mem_cons_self,fun a g=>(by cases g)⟩
    ·exact ih (fun q hq=>h q (List.mem_cons_of_mem _ hq)) t e
  exact key hr
end
end Go.Proofs.YtoealglbimbbmaaGreatDoor.S
