import Derived.Test.YtoealglbimbbmaaGreatDoorRTxt
import Derived.Test.YtoealglbimbbmaaGreatDoorRRun
import Derived.Test.YtoealglbimbbmaaGreatDoorCommitW
import Derived.Test.YtoealglbimbbmaaGreatDoorReads
import Derived.Test.YtoealglbimbbmaaGreatDoorMem
import Derived.Test.YtoealglbimbbmaaGreatDoorLimbo
namespace Go.Proofs.YtoealglbimbbmaaGreatDoor.S
open Go Go.Proofs
set_option linter.unusedVariables false
set_option linter.unusedSimpArgs false
inductive tY where
 | none
 | fetch (f:ft)
 | ext (x:uS)
 | com (x:dR)
abbrev tY.fin:tY→Int
 | .none=>0
 | .fetch f=>f.pat.fin
 | .ext f=>f.pat.fin
 | .com f=>f.pat.fin
abbrev tY.by_:tY→Int
 | .none=>0
 | .fetch f=>f.pat.by_
 | .ext f=>f.pat.by_
 | .com f=>f.pat.by_
abbrev tY.next:tY→rv×Bool
 | .none=>(AV,false)
 | .fetch f=>fU f
 | .ext f=>lE f
 | .com f=>bt f
abbrev tY.tell (a:fi):tY→tY
 | .none=>.none
 | .fetch f=>.fetch (ee f a)
 | .ext f=>.ext (lM f a)
 | .com f=>.com (dj f a)
abbrev tY.ok:tY→Prop
 | .none=>False
 | .fetch _=>True
 | .ext f=>LN f∧f.seen.length≤1000000
 | .com f=>ic f
abbrev tY.wr:tY→Bool
 | .com f=>(f.writing && decide (f.pat.fin=0)) || decide (f.pat.fin=2)
 | _=>false
abbrev tY.isCom:tY→Bool
 | .com _=>true
 | _=>false
abbrev tY.stamp:tY→Int
 | .com m=>if m.writing=true then IntKind.wrap .u64 (m.now+1) else 0
 | _=>0
structure ca where
 me:Int
 s:dQ
 run:Option fk
 blocks:List Int
 given:Nat
 v:fh
 rd:List fu
 state:Int
 inn:tY
 begun:Bool
 beg:Int
 stamp:Int
 fin:Int
 by_:Int
 err:Int
 blocking:Bool
def dv (s:dQ):dQ:=⟨held s.words 32 256,held s.stripes 1 16,held s.wide 1 16,held s.threads 1 4,(ff ⟨s.words,s.stripes,s.wide,s.threads,s.start⟩).start,held s.spins 0 4,held s.writes 0 96,held s.fuel 0 400⟩
theorem CH (s:dQ):dv (dv s)=dv s:=by
 unfold dv ff
 simp only [fo (show (32:Int)≤256 by decide),fo (show (1:Int)≤16 by decide),fo (show (1:Int)≤4 by decide),fo (show (0:Int)≤4 by decide),fo (show (0:Int)≤96 by decide),fo (show (0:Int)≤400 by decide)]
 congr 1
 split <;> simp_all
abbrev qb (me:Int)(s:dQ):ca :=
 ⟨me,dv s,none,[],0,⟨(dv s).words.toNat,[],⟨(dv s).writes,⟨[],[]⟩,[]⟩,0⟩,[],0,.none,false,0,0,0,-1,0,false⟩
abbrev kv (me:Int)(s:dQ)(p:List dD):ca:={ qb me s with run:=some (Cj p (dv s).fuel) }
abbrev gT (me:Int)(s:dQ)(bs:List Int):ca:={ qb me s with blocks:=bs }
abbrev ca.wr (x:ca):Bool:=!decide (x.state=8) && x.inn.wr
abbrev ca.done (x:ca):Bool:=decide ((if x.state=8 then x.fin else 0)=2) || x.wr
abbrev ca.freed (x:ca):List Int:=if x.done then (match x.run with | none=>x.blocks | some _=>x.v.l.frees) else []
abbrev ca.items (x:ca):List kR:=match x.run with | none=>[] | some r=>r.items
def uf (x:ca)(s:ByteArray):Prop:=x.done=true→∀r,x.run=some r→UT r.items s
def TG (x:ca):ByteArray:=match x.run with | none=>⟨#[]⟩ | some r=>I6 r.items
theorem KY {x:ca}:uf x (TG x):=fun _ r hr _ _ _=>by unfold TG;rw [hr]
abbrev gD (x:ca)(e er b:Int):ca:={ x with fin:=e,err:=er,by_:=b,state:=7 }
abbrev AK (x:ca)(c:Int):ca:={ x with inn:=.fetch (LR x.me c (es c x.s.stripes x.s.wide) x.s.spins x.stamp),state:=3 }
abbrev sX (x:ca)(st:Int):ca:={ x with inn:=.ext (Rs x.me x.s.spins x.rd),state:=st }
def ja:List Int→Nat→fh→Nat×fh×Int×Int
 | [],g,s=>(g,s,2,0)
 | b::l,g,s=>if (pp s b).2=0 then ja l (g+1) (pp s b).1 else if (pp s b).2=11 then (g,(pp s b).1,1,0) else (g,(pp s b).1,4,(pp s b).2)
def gb (ρ:HE)(x:ca):ca×Int×Int:=match x.run with
 | some r=>({ x with run:=some (ρ r x.v).1,v:=(ρ r x.v).2.1 },(ρ r x.v).2.2,(ρ r x.v).1.err)
 | none=>({ x with given:=(ja (x.blocks.drop x.given) x.given x.v).1,v:=(ja (x.blocks.drop x.given) x.given x.v).2.1 },(ja (x.blocks.drop x.given) x.given x.v).2.2.1,(ja (x.blocks.drop x.given) x.given x.v).2.2.2)
def Ht (q:ca×Int×Int):ca :=
 if q.2.1=1 then AK q.1 q.1.v.need
 else if q.2.1=3 then sX { q.1 with blocking:=true } 5
 else if q.2.1=4 then gD q.1 4 q.2.2 (-1)
 else if q.1.v.l.cells=[] then gD q.1 2 0 (-1)
 else { q.1 with inn:=.com (mW q.1.me q.1.s.spins q.1.stamp q.1.rd q.1.v.l.cells (fm (dr q.1.v.l.cells q.1.s.stripes q.1.s.wide) 16)),state:=6 }
def jr (ρ:HE)(x:ca):ca:=Ht (gb ρ x)
structure Gx (x:ca):Prop where
 run:∀r,x.run=some r→qa r x.v
 blocks:x.blocks.length≤1000000∧x.given≤x.blocks.length
 com:x.inn.isCom=false
 rd:x.rd.length≤1000
 vok:M6 x.v
abbrev kh (x:ca)(f:ft):ca:={ x with rd:=ng 16 x.rd ⟨f.stripe,f.lock.version⟩ }
abbrev py (x:ca)(f:ft):ca:={ kh x f with v:=(oY x.v x.v.need f.word).1 }
def ev (ρ:HE)(x:ca)(f:ft):ca :=
 if f.pat.fin=6 then sX x 4
 else if mF 16 x.rd ⟨f.stripe,f.lock.version⟩=0 then jr ρ (py x f)
 else if mF 16 x.rd ⟨f.stripe,f.lock.version⟩=14 then gD (kh x f) 5 0 (-1)
 else gD (kh x f) 4 (mF 16 x.rd ⟨f.stripe,f.lock.version⟩) (-1)
structure M4 (x:ca)(f:ft):Prop where
 fin:f.pat.fin=6∨f.pat.fin=2
 rd:x.rd.length≤1000
 known:x.v.k.length≤1000
 work:f.pat.fin=2→mF 16 x.rd ⟨f.stripe,f.lock.version⟩=0→Gx (py x f)
abbrev iI (ρ:HE)(x:ca):ca:=match x.inn with
 | .none=>x
 | .fetch f=>ev ρ x f
 | .ext e=>if x.state=4 then AK { x with stamp:=e.stamp } x.v.need else gD { x with stamp:=e.stamp } 3 0 (-1)
 | .com m=>gD x m.pat.fin m.pat.err (-1)
abbrev jv (x:ca):ca:=if x.wr=true then { x with stamp:=x.inn.stamp } else x
abbrev eJ (ρ:HE)(x:ca):ca:=jv (if x.inn.fin=0 then x else if x.inn.fin=5 then gD x 5 0 x.inn.by_ else iI ρ x)
abbrev bk (ρ:HE)(x:ca)(a:fi):ca :=
 if x.state=8 then x
 else if x.state=0 then { x with state:=1 }
 else if x.state=1 then { x with begun:=true,beg:=a.word,stamp:=a.word,state:=2 }
 else if x.state=2 then jr ρ x
 else if x.state=7 then { x with state:=8 }
 else eJ ρ { x with inn:=x.inn.tell a }
abbrev cX (x:ca):rv×Bool :=
 if x.state=0 then (⟨9,x.me,0,1,ai,ai⟩,true)
 else if x.state=1 then (⟨6,0,0,0,ai,ai⟩,true)
 else if x.state=2 then (⟨9,x.me,0,IntKind.wrap .u64 (x.stamp+1),ai,ai⟩,true)
 else if x.state=7 then (⟨9,x.me,0,0,ai,ai⟩,true)
 else if x.state=8 then (AV,false)
 else x.inn.next
structure NR (x:ca):Prop where
 ok:x.inn.ok
 fetch:∀f,x.inn=.fetch f→x.state=3∧(f.pat.fin=0∨f.pat.fin=5∨M4 x f)
 ext:∀e,x.inn=.ext e→(x.state=4∨x.state=5)∧(e.pat.fin=0∨e.pat.fin=5∨e.pat.fin=2)
 com:∀m,x.inn=.com m→x.state=6
structure mQ (x:ca)(a:fi):Prop where
 err:a.err=0
 work:x.state=2→Gx x
 inn:x.state≠0→x.state≠1→x.state≠2→x.state≠7→x.state≠8→x.inn.ok∧NR { x with inn:=x.inn.tell a }
structure Ta where
 stamp:Int
 done:Bool
 cells:List aw
 born:Int
 ended:Int
 reads:List aw
 beg:Int
structure cY where
 me:Int
 s:dQ
 jobs:List (List dD)
 job:Int
 state:Int
 sweep:Bool
 rests:List nA
 tries:Int
 conf:Int
 now:Option ca
 born:Int
 alarm:Bool
 past:List Ta
 res:List N8
 limbo:List nA
 slots:List Int
 by_:Int
 since:Int
 yld:Bool
 pauses:Int
abbrev fD (x:ca)(born ended:Int):Ta:=⟨x.stamp,x.done,if x.done then x.v.l.cells else [],born,ended,x.v.k,x.beg⟩
def fE (x:cY):cY:=match x.jobs[x.job.toNat]? with
 | some p=>{ x with born:=0,alarm:=false,now:=some (if x.sweep=true then gT x.me x.s (x.rests.map (·.place)) else kv x.me x.s p),state:=1 }
 | none=>{ x with born:=0,alarm:=false,now:=none,state:=6 }
structure iz (x:cY):Prop where
 lo:0≤x.job
 hi:x.job≤x.jobs.length
 progs:∀p∈x.jobs,ir p
 rests:x.rests.length≤100000
def kV:Nat→Int
 | 0=>1
 | n+1=>if 8<2*kV n then 8 else 2*kV n
theorem L8:∀n:Nat,1≤kV n∧kV n≤8
 | 0=>by simp [kV]
 | n+1=>by have:=L8 n;unfold kV;split <;> omega
def xF (c:Int):Int:=if 8<c then 8 else c
abbrev pI (conf draw:Int):Int:=draw.tmod (kV (xF conf).toNat+1)
abbrev nB (x:cY)(draw:Int):cY:=if pI x.conf draw=0 then fE { x with pauses:=0,state:=3 } else { x with pauses:=pI x.conf draw,state:=3 }
abbrev gL (x:cY):cY:=if x.state=3 then (if x.pauses=1 then fE { x with pauses:=0 } else { x with pauses:=x.pauses-1 }) else x
abbrev gQ (x:cY):cY:=fE { x with job:=x.job+1,sweep:=false,rests:=[],tries:=0,conf:=0 }
abbrev td (x:cY)(a:fi)(draw:Int):cY:=if a.err=0∧a.word≠0∧(x.yld=false∨a.word=x.since) then { x with yld:=true,since:=a.word } else nB x draw
abbrev fz (x:cY):List Int:=if (x.slots.length:Int)=x.me then x.slots++[0] else x.slots
def rH (x:cY):cY :=
 if ((fz x).length:Int)<x.s.threads then { x with slots:=fz x }
 else if x.limbo.filter (fun r=>eB (fz x) r.stamp)=[] then gQ { x with slots:=fz x,limbo:=x.limbo.filter fun r=>!eB (fz x) r.stamp }
 else fE { x with slots:=fz x,limbo:=x.limbo.filter (fun r=>!eB (fz x) r.stamp),sweep:=true,rests:=x.limbo.filter (fun r=>eB (fz x) r.stamp),tries:=0,conf:=0 }
abbrev BM (x:cY):cY:=if x.limbo=[] then gQ x else rH { x with state:=5,slots:=[] }
abbrev xW (x:cY)(since:Int):cY:=rH { x with slots:=x.slots++[since] }
abbrev BD (x:cY)(e:Int):cY:=if e=4 then gQ { x with limbo:=x.limbo++x.rests } else gQ x
def lz (x:cY)(a:ca)(draw pick:Int)(sl:ByteArray):cY :=
 if a.fin=5 then (if 0≤a.by_∧a.by_<x.s.threads then { x with past:=x.past++[fD a x.born pick],tries:=IntKind.wrap .i64 (x.tries+1),conf:=IntKind.wrap .i64 (x.conf+1),state:=2,by_:=a.by_,yld:=false } else nB { x with past:=x.past++[fD a x.born pick],tries:=IntKind.wrap .i64 (x.tries+1),conf:=IntKind.wrap .i64 (x.conf+1) } draw)
 else if a.fin=3 then (if x.alarm=true then fE { x with past:=x.past++[fD a x.born pick],tries:=IntKind.wrap .i64 (x.tries+1) } else { x with past:=x.past++[fD a x.born pick],tries:=IntKind.wrap .i64 (x.tries+1),state:=4 })
 else if x.sweep=true then BD { x with past:=x.past++[fD a x.born pick],tries:=IntKind.wrap .i64 (x.tries+1) } a.fin
 else BM { x with past:=x.past++[fD a x.born pick],tries:=IntKind.wrap .i64 (x.tries+1),res:=x.res++[⟨a.fin,a.err,sl,a.stamp⟩],limbo:=x.limbo++a.freed.map fun n=>⟨n,a.stamp⟩ }
abbrev br (x:cY):rv×Bool :=
 if x.state=1 then (match x.now with | some a=>cX a | none=>(AV,false))
 else if x.state=2 then (⟨8,x.by_,0,0,ai,ai⟩,true)
 else if x.state=5 then (⟨8,x.slots.length,0,0,ai,ai⟩,true)
 else (AV,false)
abbrev p6 (x:cY)(a a':ca)(draw pick:Int)(sl:ByteArray):cY :=
 if a'.state=8∧a'.fin≠0 then lz { x with now:=some a',born:=if a'.begun && !a.begun then pick else x.born } a' draw pick sl else { x with now:=some a',born:=if a'.begun && !a.begun then pick else x.born }
abbrev thrTell (ρ:HE)(x:cY)(a:fi)(draw pick:Int)(sl:ByteArray):cY :=
 if x.state=1 then (match x.now with | some at_=>p6 x at_ (bk ρ at_ a) draw pick sl | none=>x)
 else if x.state=2 then td x a draw
 else if x.state=5 then xW x (if a.err=0 then a.word else 0) else x
structure CY (a:ca):Prop where
 gone:a.state=8
 fin:a.fin≠0
 known:a.v.k.length≤1000
 cells:a.v.l.cells.length≤1000
 frees:a.done=true→a.v.l.frees.length≤1000
 blocks:a.blocks.length≤100000
 items:a.done=true→BH a.items
structure G9 (x:cY)(a:fi):Prop where
 jobs:iz x
 few:x.jobs.length≤1000000
 past:x.past.length≤1000000
 res:x.res.length≤1000000
 limbo:x.limbo.length+x.rests.length≤80000
 slots:x.state=5→x.slots.length≤4∧0≤x.me∧x.s.threads≤4
 run:x.state=1→x.job<x.jobs.length∧x.s.threads≤4∧0≤x.me∧∃at_,x.now=some at_∧mQ at_ a∧∀ρ,dm ρ→(bk ρ at_ a).state=8→CY (bk ρ at_ a)∧(x.sweep=false→(bk ρ at_ a).freed.length≤1000)
 look:x.state=5→x.job<x.jobs.length
abbrev I7 (l:List fu)(s ver:Int):Bool:=l.any fun z=>decide (z.stripe=s) && !decide (z.version=ver)
def gJ (x:cY)(s ver:Int):cY:=match x.now with
 | none=>x
 | some a=>if I7 a.rd s ver=true then (if x.state=4 then fE x else if x.state=1∧(!decide (a.state=8) && a.blocking)=true then { x with alarm:=true } else x) else x
abbrev kU (me:Int)(s:dQ)(jobs:List (List dD)):cY:=gQ ⟨me,dv s,jobs,-1,0,false,[],0,0,none,0,false,[],[],[],[],0,0,false,0⟩
structure jL where
 s:dQ
 mem:fJ
 thr:List cY
 picks:Int
def iV (i:Nat)(s ver:Int)(k:Nat)(l:List cY):List cY:=l.mapIdx fun j u=>if j<k∧j≠i then gJ u s ver else u
def kg (ρ:HE)(x:jL)(i:Nat)(t:cY)(draw:Int)(sl:ByteArray):jL:={ x with mem:=(az x.mem (br t).1).1,thr:=if (br t).1.kind=5 then iV i (br t).1.place (br t).1.lock.version x.thr.length (x.thr.set i (thrTell ρ t (az x.mem (br t).1).2 draw (x.picks+1) sl)) else x.thr.set i (thrTell ρ t (az x.mem (br t).1).2 draw (x.picks+1) sl),picks:=x.picks+1 }
abbrev pD (x:jL)(i:Nat)(t:cY):jL:={ x with thr:=x.thr.set i (gL t),picks:=x.picks+1 }
structure RE (x:jL)(i:Nat)(t:cY):Prop where
 at_:x.thr[i]? = some t
 few:x.thr.length≤4
 picks:0≤x.picks∧x.picks<1000000000
 run:t.state=1→∃a,t.now=some a∧(a.state≠0→a.state≠1→a.state≠2→a.state≠7→a.state≠8→a.inn.ok)
 slots:t.state=5→t.slots.length≤4
 jobs:iz t
 pauses:(br t).2=false→t.state=3→1≤t.pauses∧t.pauses≤100
 hear:(br t).2=true→G9 t (az x.mem (br t).1).2
 others:∀k u,x.thr[k]? = some u→k≠i→iz u∧∀a,u.now=some a→a.rd.length≤1000
abbrev km (m:fJ)(k:Nat):fJ:=if k≤5 then m else (az m ⟨2,5,0,14,ai,ai⟩).1
abbrev dC (s:dQ)(rows:Nat):dQ:=dv { s with threads:=rows }
abbrev dQ.shape (s:dQ):jk:=⟨s.words,s.stripes,s.wide,s.threads,s.start⟩
def iY (s:dQ):Nat→List (List (List dD))→List cY
 | _,[]=>[]
 | i,r::l=>kU i s r::iY s (i+1) l
abbrev dM (s:dQ)(rows:List (List (List dD))):jL :=
 ⟨dC s rows.length,km (t9 (dC s rows.length).shape) 6,iY (dC s rows.length) 0 rows,0⟩
abbrev dJ (t:cY):List Ta:=t.past++(if t.state=1 then (match t.now with | some a=>if a.begun=true then [fD a t.born 0] else [] | none=>[]) else [])
abbrev wK (x:jL):List Ta:=x.thr.flatMap dJ
end Go.Proofs.YtoealglbimbbmaaGreatDoor.S
namespace Go.Proofs.YtoealglbimbbmaaGreatDoor.S
open Go Go.Proofs
set_option linter.unusedVariables false
set_option linter.unusedSimpArgs false
section
variable {s:fh}
theorem Vg.gives:∀{l:List Int}{g:Nat}{s:fh},Vg s→Vg (ja l g s).2.1
 | [],_,_,h=>h
 | b::l,g,s,h=>by
  unfold ja
  split
  ·exact Vg.gives h.give
  ·split <;> exact h.give
end
def VF:tY→Prop
 | .fetch f=>fF f.word
 | .com m=>Cw m.cells
 | _=>True
structure i9 (a:ca):Prop where
 run:∀r,a.run=some r→Rg r
 v:Vg a.v
 inn:VF a.inn
section
variable {x:ca}{m:fJ}{o:rv}{c:dR}{f:ft}{an:fi}{ρ:HE}
theorem Fw:(gP c).cells=c.cells:=by unfold gP;split <;> rfl
theorem yj {e er b:Int}:(fN c e er b).cells=c.cells:=by unfold fN;rw [Fw]
theorem I9 {l:df}:(i5 c l).cells=c.cells:=by unfold i5;split;rfl;rw [yj]
theorem Js:(i8 c).cells=c.cells:=by unfold i8;split <;> rfl
theorem GZ:(jj c).cells=c.cells:=by unfold jj;split;rw [Js];rfl
theorem Gk:(nH c).cells=c.cells:=by unfold nH;rw [GZ]
theorem MA:∀{n:Nat}{c:dR},(kp n c).cells=c.cells
 | 0,_=>Gk
 | n+1,c=>by
  unfold kp
  split
  ·rfl
  ·split
   ·rw [MA]
   ·exact yj
theorem GH:(nG c).cells=c.cells:=by unfold nG;rw [MA]
theorem Ln {l:df}:(kJ c l).cells=c.cells:=by
 unfold kJ
 split
 ·exact I9
 ·split
  ·rw [GH]
  ·exact yj
theorem Qb:(pK c an).cells=c.cells:=by
 unfold pK
 split
 ·split
  ·exact I9
  ·rfl
 ·split <;> rfl
abbrev VQ (c z:dR):Prop:=z.cells=c.cells
theorem Oo:(lr c an).cells=c.cells:=by
 unfold lr
 refine di (P:=VQ c) (fun _=>di (P:=VQ c) (fun _=>yj) fun _=>rfl) fun _=>di (P:=VQ c) (fun _=>rfl) fun _=>di (P:=VQ c) (fun _=>Gk) fun _=>GH
theorem Q6:(dj c an).cells=c.cells:=by
 unfold dj
 refine di (P:=VQ c) (fun _=>?_) fun _=>rfl
 split
 ·exact Qb
 split
 ·exact Oo
 split
 ·exact Ln
 split
 ·exact GZ
 split
 ·exact Js
 ·exact Fw
theorem Vi (hm:∀n∈m.w,fF n){k:Nat}:fF (m.w.getD k 0):=by
 rw [List.getD_eq_getElem?_getD]
 cases e:m.w[k]? with
 | none=>exact iy
 | some n=>exact hm n (List.mem_of_getElem? e)
abbrev Mm (z:fJ×fi):Prop:=∀n∈z.1.w,fF n
theorem Uy (hm:∀n∈m.w,fF n)(ho:o.kind=2→fF o.word):∀n∈(az m o).1.w,fF n:=by
 have h1:Mm (cr m o):=by
  unfold cr
  refine di (P:=Mm) (fun _=>di (P:=Mm) (fun _=>hm) fun _=>hm) fun _=>?_
  refine di (P:=Mm) (fun h2=>di (P:=Mm) (fun _ n hn=>(List.mem_or_eq_of_mem_set hn).elim (hm n) fun e=>by rw [e];exact ho h2) fun _=>hm) fun _=>?_
  refine di (P:=Mm) (fun _=>hm) fun _=>di (P:=Mm) (fun _=>hm) fun _=>di (P:=Mm) (fun _=>hm) fun _=>di (P:=Mm) (fun _=>hm) fun _=>?_
  refine di (P:=Mm) (fun _=>di (P:=Mm) (fun _=>hm) fun _=>di (P:=Mm) (fun _=>hm) fun _=>di (P:=Mm) (fun _=>hm) fun _=>hm) fun _=>?_
  exact di (P:=Mm) (fun _=>di (P:=Mm) (fun _=>hm) fun _=>hm) fun _=>di (P:=Mm) (fun _=>di (P:=Mm) (fun _=>hm) fun _=>hm) fun _=>hm
 unfold az
 split <;> exact h1
theorem SS (hm:∀n∈m.w,fF n)(ho:o.kind=1):fF (az m o).2.word:=by
 have h1:fF (cr m o).2.word:=by
  unfold cr
  rw [if_pos ho]
  split
  ·exact Vi hm
  ·exact iy
 unfold az
 split <;> exact h1
theorem Mx {p:nD}{e:Int}(h:(p.stopped e).fin=0):p.fin=0:=by
 unfold nD.stopped at h
 split at h
 ·rename_i g;exact g.1
 ·exact h
theorem T3 {l:df}:(kq f l).word=f.word:=by
 unfold kq
 exact di (P:=fun z:ft=>z.word=f.word) (fun _=>di (P:=fun z:ft=>z.word=f.word) (fun _=>rfl) fun _=>rfl) fun _=>di (P:=fun z:ft=>z.word=f.word) (fun _=>rfl) fun _=>rfl
theorem VF.tell (hm:∀n∈m.w,fF n):∀{i:tY},VF i→VF (i.tell (az m i.next.1).2)
 | .none,_=>trivial
 | .ext _,_=>trivial
 | .com c,h=>by
  show Cw (dj c _).cells
  rw [Q6];exact h
 | .fetch f,h=>by
  show fF (ee f (az m (fU f).1).2).word
  unfold ee
  split
  ·rename_i h0
   have hf:=Mx h0
   split
   ·rename_i h1
    refine SS hm ?_
    unfold fU
    rw [if_pos hf,if_pos h1]
   ·split
    ·exact h
    ·rw [T3];exact h
  ·exact h
theorem VF.next:∀{i:tY},VF i→i.next.1.kind=2→fF i.next.1.word
 | .none,_,g=>by cases g
 | .ext e,_,g=>by
  have g:(lE e).1.kind=2:=g
  unfold lE at g
  split at g
  ·split at g <;> cases g
  ·cases g
 | .fetch f,_,g=>by
  have g:(fU f).1.kind=2:=g
  unfold fU at g
  split at g
  ·split at g <;> cases g
  ·cases g
 | .com c,h,g=>by
  have g:(bt c).1.kind=2:=g
  show fF (bt c).1.word
  unfold bt at g ⊢
  split at g
  ·rename_i h0
   rw [if_pos h0]
   have hc:fF (c.cells.getD c.pos ⟨0,0⟩).word:=by
    rw [List.getD_eq_getElem?_getD]
    cases e:c.cells[c.pos]? with
    | none=>exact iy
    | some z=>exact h z (List.mem_of_getElem? e)
   simp only at g ⊢
   by_cases c0:c.state=0
   ·rw [if_pos c0] at g;cases g
   by_cases c1:c.state=1
   ·rw [if_neg c0,if_pos c1] at g;cases g
   by_cases c2:c.state=2
   ·rw [if_neg c0,if_neg c1,if_pos c2] at g;cases g
   by_cases c3:c.state=3
   ·rw [if_neg c0,if_neg c1,if_neg c2,if_pos c3] at g;cases g
   by_cases c4:c.state=4
   ·rw [if_neg c0,if_neg c1,if_neg c2,if_neg c3,if_pos c4] at g;cases g
   by_cases c5:c.state=5
   ·rw [if_neg c0,if_neg c1,if_neg c2,if_neg c3,if_neg c4,if_pos c5];exact hc
   ·rw [if_neg c0,if_neg c1,if_neg c2,if_neg c3,if_neg c4,if_neg c5] at g
    split at g <;> cases g
  ·cases g
theorem i9.out (h:i9 x){e er b:Int}:i9 (gD x e er b):=⟨h.run,h.v,h.inn⟩
theorem i9.ask (h:i9 x){c:Int}:i9 (AK x c):=⟨h.run,h.v,iy⟩
theorem i9.later (h:i9 x){s:Int}:i9 (sX x s):=⟨h.run,h.v,trivial⟩
theorem i9.did {q:ca×Int×Int}(h:i9 q.1):i9 (Ht q):=by
 unfold Ht
 refine di (fun _=>h.ask) fun _=>di (fun _=>?_) fun _=>di (fun _=>h.out) fun _=>di (fun _=>h.out) fun _=>?_
 ·exact⟨h.run,h.v,trivial⟩
 ·exact⟨h.run,h.v,Fg h.v.l⟩
theorem i9.work (hρ:dm ρ)(h:i9 x):i9 (jr ρ x):=by
 unfold jr
 refine i9.did ?_
 unfold gb
 cases e:x.run with
 | none=>exact⟨fun r g=>(by cases g),h.v.gives,h.inn⟩
 | some r =>
  have h1:=hρ.u r x.v (h.run r e) h.v
  exact⟨fun r g=>(by cases g;exact h1.1),h1.2,h.inn⟩
theorem i9.fetched (hρ:dm ρ)(h:i9 x)(hf:fF f.word):i9 (ev ρ x f):=by
 unfold ev
 refine di (fun _=>h.later) fun _=>di (fun _=>i9.work hρ ⟨h.run,h.v.know hf,h.inn⟩) fun _=>di (fun _=>?_) fun _=>?_
 ·exact⟨h.run,h.v,h.inn⟩
 ·exact⟨h.run,h.v,h.inn⟩
theorem i9.ended (hρ:dm ρ)(h:i9 x):i9 (iI ρ x):=by
 unfold iI
 have hi:=h.inn
 cases e:x.inn with
 | none=>exact h
 | fetch f=>rw [e] at hi;exact h.fetched hρ hi
 | ext m=>exact di (fun _=>⟨h.run,h.v,iy⟩) fun _=>⟨h.run,h.v,trivial⟩
 | com m=>exact h.out
theorem i9.mark (h:i9 x):i9 (jv x):=by
 unfold jv
 exact di (fun _=>⟨h.run,h.v,h.inn⟩) fun _=>h
theorem i9.tell (hρ:dm ρ)(h:i9 x)(hi:VF (x.inn.tell an)):i9 (bk ρ x an):=by
 unfold bk
 refine di (fun _=>h) fun _=>di (fun _=>⟨h.run,h.v,h.inn⟩) fun _=>di (fun _=>⟨h.run,h.v,h.inn⟩) fun _=>di (fun _=>h.work hρ) fun _=>di (fun _=>⟨h.run,h.v,h.inn⟩) fun _=>?_
 unfold eJ
 have h2:i9 { x with inn:=x.inn.tell an }:=⟨h.run,h.v,hi⟩
 exact i9.mark (di (fun _=>h2) fun _=>di (fun _=>h2.out) fun _=>h2.ended hρ)
theorem i9.items (h:i9 x):∀n∈x.items,za n:=by
 unfold ca.items
 cases e:x.run with
 | none=>simp
 | some r=>exact(h.run r e).items
end
structure fw (t:cY):Prop where
 jobs:∀p∈t.jobs,∀i∈p,fF i.n
 now:∀a,t.now=some a→i9 a
structure sF (x:jL):Prop where
 mem:∀n∈x.mem.w,fF n
 thr:∀t∈x.thr,fw t
section
variable {x:cY}{m:jL}{t u:cY}{a:ca}{an:fi}{draw pick:Int}{sl:ByteArray}{i:Nat}{ρ:HE}
theorem Oz {me:Int}{s:dQ}:Vg (qb me s).v:=⟨.nil,fun r hr=>by
 rcases List.mem_cons.1 hr with e | e
 ·rw [e];exact .nil
 ·cases e⟩
theorem fw.again (h:fw x):fw (fE x):=by
 unfold fE
 cases e:x.jobs[x.job.toNat]? with
 | none=>exact⟨h.jobs,fun a g=>(by cases g)⟩
 | some p =>
  refine⟨h.jobs,fun a g=>?_⟩
  simp only [Option.some.injEq] at g
  subst g
  refine di (fun _=>⟨fun r g=>(by cases g),Oz (me:=x.me),trivial⟩) fun _=>⟨fun r g=>?_,Oz (me:=x.me),trivial⟩
  cases g
  refine⟨fun k=>?_,by simp,h.jobs p (List.mem_of_getElem? e)⟩
  show fF (ED.get ⟨0,0,0,0,0,0,0,0⟩ k)
  unfold ED.get
  split <;> exact iy
theorem fw.eqs (h:fw x)(h1:u.jobs=x.jobs)(h2:u.now=x.now):fw u:=⟨by rw [h1];exact h.jobs,by rw [h2];exact h.now⟩
theorem fw.pause (h:fw x):fw (nB x draw):=by
 unfold nB
 exact di (fun _=>fw.again (h.eqs rfl rfl)) fun _=>h.eqs rfl rfl
theorem fw.rest (h:fw x):fw (gL x):=by
 unfold gL
 exact di (fun _=>di (fun _=>fw.again (h.eqs rfl rfl)) fun _=>h.eqs rfl rfl) fun _=>h
theorem fw.follow (h:fw x):fw (gQ x):=fw.again (h.eqs rfl rfl)
theorem fw.yield (h:fw x):fw (td x an draw):=by
 unfold td
 exact di (fun _=>h.eqs rfl rfl) fun _=>h.pause
theorem fw.look (h:fw x):fw (rH x):=by
 unfold rH
 exact di (fun _=>h.eqs rfl rfl) fun _=>di (fun _=>fw.follow (h.eqs rfl rfl)) fun _=>fw.again (h.eqs rfl rfl)
theorem fw.over (h:fw x):fw (BM x):=by
 unfold BM
 exact di (fun _=>h.follow) fun _=>fw.look (h.eqs rfl rfl)
theorem fw.ended (h:fw x):fw (lz x a draw pick sl):=by
 unfold lz
 refine di (fun _=>di (fun _=>h.eqs rfl rfl) fun _=>fw.pause (h.eqs rfl rfl)) fun _=>di (fun _=>di (fun _=>fw.again (h.eqs rfl rfl)) fun _=>h.eqs rfl rfl) fun _=>di (fun _=>?_) fun _=>fw.over (h.eqs rfl rfl)
 unfold BD
 exact di (fun _=>fw.follow (h.eqs rfl rfl)) fun _=>fw.follow (h.eqs rfl rfl)
theorem fw.wake {s v:Int}(h:fw x):fw (gJ x s v):=by
 unfold gJ
 cases e:x.now with
 | none=>exact h
 | some a=>exact di (fun _=>di (fun _=>h.again) fun _=>di (fun _=>h.eqs rfl e.symm) fun _=>h) fun _=>h
theorem sF.ans (hρ:dm ρ)(h:sF m)(ht:t∈m.thr)(h1:t.state=1)(ha:t.now=some a):i9 (bk ρ a (az m.mem (cX a).1).2):=by
 have hA:=(h.thr t ht).now a ha
 by_cases c:a.state=8∨a.state=0∨a.state=1∨a.state=2∨a.state=7
 ·
  rcases c with c | c | c | c | c
  all_goals
   unfold bk
   simp only [c,Int.reduceEq,if_false,if_true]
  ·exact hA
  ·exact⟨hA.run,hA.v,hA.inn⟩
  ·exact⟨hA.run,hA.v,hA.inn⟩
  ·exact hA.work hρ
  ·exact⟨hA.run,hA.v,hA.inn⟩
 ·have e:cX a=a.inn.next:=by
   unfold cX
   rw [if_neg (fun g=>c (.inr (.inl g))),if_neg (fun g=>c (.inr (.inr (.inl g)))),if_neg (fun g=>c (.inr (.inr (.inr (.inl g))))),if_neg (fun g=>c (.inr (.inr (.inr (.inr g))))),if_neg (fun g=>c (.inl g))]
  rw [e]
  exact hA.tell hρ (hA.inn.tell h.mem)
abbrev VM (z:rv×Bool):Prop:=z.1.kind=2→fF z.1.word
theorem sF.op (h:sF m)(ht:t∈m.thr):(br t).1.kind=2→fF (br t).1.word:=by
 unfold br
 by_cases c1:t.state=1
 ·rw [if_pos c1]
  cases ha:t.now with
  | none=>intro g;cases g
  | some a =>
   have hA:=(h.thr t ht).now a ha
   simp only
   unfold cX
   refine di (P:=VM) (fun _ g=>(by cases g)) fun _=>di (P:=VM) (fun _ g=>(by cases g)) fun _=>di (P:=VM) (fun _ g=>(by cases g)) fun _=>di (P:=VM) (fun _ g=>(by cases g)) fun _=>di (P:=VM) (fun _ g=>(by cases g)) fun _=>hA.inn.next
 ·rw [if_neg c1]
  exact di (P:=VM) (fun _ g=>(by cases g)) fun _=>di (P:=VM) (fun _ g=>(by cases g)) fun _ g=>(by cases g)
theorem sF.thrTell (hρ:dm ρ)(h:sF m)(ht:t∈m.thr):fw (thrTell ρ t (az m.mem (br t).1).2 draw pick sl):=by
 have hT:=h.thr t ht
 unfold S.thrTell
 by_cases c1:t.state=1
 ·rw [if_pos c1]
  cases ha:t.now with
  | none=>exact hT
  | some a =>
   have en:br t=cX a:=by unfold br;rw [if_pos c1,ha]
   have hU:=h.ans hρ ht c1 ha
   rw [en]
   simp only
   unfold p6
   have h2:fw { t with now:=some (bk ρ a (az m.mem (cX a).1).2),born:=if (bk ρ a (az m.mem (cX a).1).2).begun && !a.begun then pick else t.born }:=⟨hT.jobs,fun b g=>(by cases g;exact hU)⟩
   exact di (fun _=>h2.ended) fun _=>h2
 ·rw [if_neg c1]
  refine di (fun _=>hT.yield) fun _=>di (fun _=>?_) fun _=>hT
  unfold xW
  exact fw.look (hT.eqs rfl rfl)
theorem Rp {k j:Nat}{s v:Int}{l:List cY}(h:∀t∈l,fw t):∀t∈iV j s v k l,fw t:=fun t ht=>by
 unfold iV at ht
 obtain⟨q,hq,rfl⟩:=List.mem_mapIdx.1 ht
 exact di (fun _=>(h _ (List.getElem_mem _)).wake) fun _=>h _ (List.getElem_mem _)
theorem OS {l:List cY}(h:∀t∈l,fw t)(hu:fw u):∀t∈l.set i u,fw t:=fun t ht=>(List.mem_or_eq_of_mem_set ht).elim (h t) fun e=>by rw [e];exact hu
theorem sF.step (hρ:dm ρ)(h:sF m)(ht:m.thr[i]? = some t):sF (if (br t).2=true then kg ρ m i t draw sl else pD m i t):=by
 have hm:=List.mem_of_getElem? ht
 refine di (fun _=>?_) fun _=>?_
 ·unfold kg
  refine⟨Uy h.mem (h.op hm),?_⟩
  have h2:=OS (i:=i) h.thr (h.thrTell hρ (draw:=draw) (pick:=m.picks+1) (sl:=sl) hm)
  exact di (P:=fun l:List cY=>∀t∈l,fw t) (fun _=>Rp h2) fun _=>h2
 ·exact⟨h.mem,OS h.thr (h.thr t hm).rest⟩
theorem sF.new {s:dQ}{rows:List (List (List dD))}(hr:∀r∈rows,∀p∈r,∀i∈p,fF i.n):sF (dM s rows):=by
 refine⟨?_,?_⟩
 ·show ∀n∈(km (t9 _) 6).w,fF n
  refine Uy (o:=⟨2,5,0,14,ai,ai⟩) (fun n hn=>?_) (fun _=>⟨by decide,by decide⟩)
  rw [List.eq_of_mem_replicate hn];exact iy
 ·have key:∀{l:List (List (List dD))} {S:dQ} {k:Nat},(∀r∈l,∀p∈r,∀i∈p,fF i.n)→∀t∈iY S k l,fw t:=fun {l}=>by
   induction l with
   | nil=>intro S k _ t ht;cases ht
   | cons r l ih =>
    intro S k h t ht
    rcases List.mem_cons.1 ht with e | e
    ·rw [e]
     exact fw.follow ⟨h r List.mem_cons_self,fun a g=>(by cases g)⟩
    ·exact ih (fun q hq=>h q (List.mem_cons_of_mem _ hq)) t e
  exact key hr
end
end Go.Proofs.YtoealglbimbbmaaGreatDoor.S
