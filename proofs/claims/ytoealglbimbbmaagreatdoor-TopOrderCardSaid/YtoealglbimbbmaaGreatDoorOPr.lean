import Derived.Test.YtoealglbimbbmaaGreatDoorOTxt
import Derived.Test.YtoealglbimbbmaaGreatDoorCommitW
import Derived.Test.YtoealglbimbbmaaGreatDoorReads
import Derived.Test.YtoealglbimbbmaaGreatDoorMem
import Derived.Test.YtoealglbimbbmaaGreatDoorLimbo
namespace Go.Proofs.YtoealglbimbbmaaGreatDoor.S
open Go Go.Proofs
set_option linter.unusedVariables false
set_option linter.unusedSimpArgs false
inductive tH where
 | none
 | fetch (f:fT)
 | ext (x:u9)
 | com (x:eJ)
abbrev tH.fin:tH→Int
 | .none=>0
 | .fetch f=>f.pat.fin
 | .ext f=>f.pat.fin
 | .com f=>f.pat.fin
abbrev tH.by_:tH→Int
 | .none=>0
 | .fetch f=>f.pat.by_
 | .ext f=>f.pat.by_
 | .com f=>f.pat.by_
abbrev tH.next:tH→rv×Bool
 | .none=>(Ab,false)
 | .fetch f=>gE f
 | .ext f=>l7 f
 | .com f=>bi f
abbrev tH.tell (a:fH):tH→tH
 | .none=>.none
 | .fetch f=>.fetch (gS f a)
 | .ext f=>.ext (nR f a)
 | .com f=>.com (cy f a)
abbrev tH.ok:tH→Prop
 | .none=>False
 | .fetch _=>True
 | .ext f=>J0 f∧f.seen.length≤1000000
 | .com f=>iK f
abbrev tH.wr:tH→Bool
 | .com f=>(f.writing && decide (f.pat.fin=0)) || decide (f.pat.fin=2)
 | _=>false
abbrev tH.isCom:tH→Bool
 | .com _=>true
 | _=>false
abbrev tH.stamp:tH→Int
 | .com m=>if m.writing=true then IntKind.wrap .u64 (m.now+1) else 0
 | _=>0
structure bq where
 me:Int
 s:eO
 run:Option fm
 blocks:List Int
 given:Nat
 v:fR
 rd:List fQ
 state:Int
 inn:tH
 begun:Bool
 beg:Int
 stamp:Int
 fin:Int
 by_:Int
 err:Int
 blocking:Bool
def dj (s:eO):eO:=⟨held s.words 32 256,held s.stripes 1 16,held s.wide 1 16,held s.threads 1 4,(fD ⟨s.words,s.stripes,s.wide,s.threads,s.start⟩).start,held s.spins 0 4,held s.writes 0 96,held s.fuel 0 400⟩
theorem Bf (s:eO):dj (dj s)=dj s:=by
 unfold dj fD
 simp only [fK (show (32:Int)≤256 by decide),fK (show (1:Int)≤16 by decide),fK (show (1:Int)≤4 by decide),fK (show (0:Int)≤4 by decide),fK (show (0:Int)≤96 by decide),fK (show (0:Int)≤400 by decide)]
 congr 1
 split <;> simp_all
abbrev qt (me:Int)(s:eO):bq :=
 ⟨me,dj s,none,[],0,⟨(dj s).words.toNat,[],⟨(dj s).writes,⟨[],[]⟩,[]⟩,0⟩,[],0,.none,false,0,0,0,-1,0,false⟩
abbrev kV (me:Int)(s:eO)(p:List bu):bq:={ qt me s with run:=some (BG p (dj s).fuel) }
abbrev iz (me:Int)(s:eO)(bs:List Int):bq:={ qt me s with blocks:=bs }
abbrev bq.wr (x:bq):Bool:=!decide (x.state=8) && x.inn.wr
abbrev bq.done (x:bq):Bool:=decide ((if x.state=8 then x.fin else 0)=2) || x.wr
abbrev bq.freed (x:bq):List Int:=if x.done then (match x.run with | none=>x.blocks | some _=>x.v.l.frees) else []
abbrev bq.items (x:bq):List Int:=match x.run with | none=>[] | some r=>r.items
def uS (x:bq)(s:ByteArray):Prop:=x.done=true→∀r,x.run=some r→SW r.items s
def Q5 (x:bq):ByteArray:=match x.run with | none=>⟨#[]⟩ | some r=>HV r.items
theorem MX {x:bq}:uS x (Q5 x):=fun _ r hr _ _=>by unfold Q5;rw [hr]
abbrev hN (x:bq)(e er b:Int):bq:={ x with fin:=e,err:=er,by_:=b,state:=7 }
abbrev zy (x:bq)(c:Int):bq:={ x with inn:=.fetch (Ku x.me c (fc c x.s.stripes x.s.wide) x.s.spins x.stamp),state:=3 }
abbrev tt (x:bq)(st:Int):bq:={ x with inn:=.ext (Pz x.me x.s.spins x.rd),state:=st }
def jx:List Int→Nat→fR→Nat×fR×Int×Int
 | [],g,s=>(g,s,2,0)
 | b::l,g,s=>if (pB s b).2=0 then jx l (g+1) (pB s b).1 else if (pB s b).2=11 then (g,(pB s b).1,1,0) else (g,(pB s b).1,4,(pB s b).2)
def jD (x:bq):bq×Int×Int:=match x.run with
 | some r=>({ x with run:=some (jp 500 r x.v).1,v:=(jp 500 r x.v).2.1 },(jp 500 r x.v).2.2,(jp 500 r x.v).1.err)
 | none=>({ x with given:=(jx (x.blocks.drop x.given) x.given x.v).1,v:=(jx (x.blocks.drop x.given) x.given x.v).2.1 },(jx (x.blocks.drop x.given) x.given x.v).2.2.1,(jx (x.blocks.drop x.given) x.given x.v).2.2.2)
def F6 (q:bq×Int×Int):bq :=
 if q.2.1=1 then zy q.1 q.1.v.need
 else if q.2.1=3 then tt { q.1 with blocking:=true } 5
 else if q.2.1=4 then hN q.1 4 q.2.2 (-1)
 else if q.1.v.l.cells=[] then hN q.1 2 0 (-1)
 else { q.1 with inn:=.com (nB q.1.me q.1.s.spins q.1.stamp q.1.rd q.1.v.l.cells (fM (de q.1.v.l.cells q.1.s.stripes q.1.s.wide) 16)),state:=6 }
def pR (x:bq):bq:=F6 (jD x)
structure Fb (x:bq):Prop where
 run:∀r,x.run=some r→wD 500 r x.v
 blocks:x.blocks.length≤1000000∧x.given≤x.blocks.length
 com:x.inn.isCom=false
 rd:x.rd.length≤1000
 cells:(jD x).1.v.l.cells.length≤1000
abbrev kO (x:bq)(f:fT):bq:={ x with rd:=nW 16 x.rd ⟨f.stripe,f.lock.version⟩ }
abbrev rq (x:bq)(f:fT):bq:={ kO x f with v:=(yJ x.v x.v.need f.word).1 }
def iV (x:bq)(f:fT):bq :=
 if f.pat.fin=6 then tt x 4
 else if nH 16 x.rd ⟨f.stripe,f.lock.version⟩=0 then pR (rq x f)
 else if nH 16 x.rd ⟨f.stripe,f.lock.version⟩=14 then hN (kO x f) 5 0 (-1)
 else hN (kO x f) 4 (nH 16 x.rd ⟨f.stripe,f.lock.version⟩) (-1)
structure JM (x:bq)(f:fT):Prop where
 fin:f.pat.fin=6∨f.pat.fin=2
 rd:x.rd.length≤1000
 known:x.v.k.length≤1000
 work:f.pat.fin=2→nH 16 x.rd ⟨f.stripe,f.lock.version⟩=0→Fb (rq x f)
abbrev pg (x:bq):bq:=match x.inn with
 | .none=>x
 | .fetch f=>iV x f
 | .ext e=>if x.state=4 then zy { x with stamp:=e.stamp } x.v.need else hN { x with stamp:=e.stamp } 3 0 (-1)
 | .com m=>hN x m.pat.fin m.pat.err (-1)
abbrev jR (x:bq):bq:=if x.wr=true then { x with stamp:=x.inn.stamp } else x
abbrev fZ (x:bq):bq:=jR (if x.inn.fin=0 then x else if x.inn.fin=5 then hN x 5 0 x.inn.by_ else pg x)
abbrev bm (x:bq)(a:fH):bq :=
 if x.state=8 then x
 else if x.state=0 then { x with state:=1 }
 else if x.state=1 then { x with begun:=true,beg:=a.word,stamp:=a.word,state:=2 }
 else if x.state=2 then pR x
 else if x.state=7 then { x with state:=8 }
 else fZ { x with inn:=x.inn.tell a }
abbrev cn (x:bq):rv×Bool :=
 if x.state=0 then (⟨9,x.me,0,1,ah,ah⟩,true)
 else if x.state=1 then (⟨6,0,0,0,ah,ah⟩,true)
 else if x.state=2 then (⟨9,x.me,0,IntKind.wrap .u64 (x.stamp+1),ah,ah⟩,true)
 else if x.state=7 then (⟨9,x.me,0,0,ah,ah⟩,true)
 else if x.state=8 then (Ab,false)
 else x.inn.next
structure Mh (x:bq):Prop where
 ok:x.inn.ok
 fetch:∀f,x.inn=.fetch f→x.state=3∧(f.pat.fin=0∨f.pat.fin=5∨JM x f)
 ext:∀e,x.inn=.ext e→(x.state=4∨x.state=5)∧(e.pat.fin=0∨e.pat.fin=5∨e.pat.fin=2)
 com:∀m,x.inn=.com m→x.state=6
structure nI (x:bq)(a:fH):Prop where
 err:a.err=0
 work:x.state=2→Fb x
 inn:x.state≠0→x.state≠1→x.state≠2→x.state≠7→x.state≠8→x.inn.ok∧Mh { x with inn:=x.inn.tell a }
structure Ta where
 stamp:Int
 done:Bool
 cells:List au
 born:Int
 ended:Int
 reads:List au
 beg:Int
structure co where
 me:Int
 s:eO
 jobs:List (List bu)
 job:Int
 state:Int
 sweep:Bool
 rests:List pc
 tries:Int
 conf:Int
 now:Option bq
 born:Int
 alarm:Bool
 past:List Ta
 res:List Li
 limbo:List pc
 slots:List Int
 by_:Int
 since:Int
 yld:Bool
 pauses:Int
abbrev gh (x:bq)(born ended:Int):Ta:=⟨x.stamp,x.done,if x.done then x.v.l.cells else [],born,ended,x.v.k,x.beg⟩
def gb (x:co):co:=match x.jobs[x.job.toNat]? with
 | some p=>{ x with born:=0,alarm:=false,now:=some (if x.sweep=true then iz x.me x.s (x.rests.map (·.place)) else kV x.me x.s p),state:=1 }
 | none=>{ x with born:=0,alarm:=false,now:=none,state:=6 }
structure iQ (x:co):Prop where
 lo:0≤x.job
 hi:x.job≤x.jobs.length
 progs:∀p∈x.jobs,p.length≤1000
 rests:x.rests.length≤100000
def lS:Nat→Int
 | 0=>1
 | n+1=>if 8<2*lS n then 8 else 2*lS n
theorem KM:∀n:Nat,1≤lS n∧lS n≤8
 | 0=>by simp [lS]
 | n+1=>by have:=KM n;unfold lS;split <;> omega
def wA (c:Int):Int:=if 8<c then 8 else c
abbrev pY (conf draw:Int):Int:=draw.tmod (lS (wA conf).toNat+1)
abbrev oT (x:co)(draw:Int):co:=if pY x.conf draw=0 then gb { x with pauses:=0,state:=3 } else { x with pauses:=pY x.conf draw,state:=3 }
abbrev io (x:co):co:=if x.state=3 then (if x.pauses=1 then gb { x with pauses:=0 } else { x with pauses:=x.pauses-1 }) else x
abbrev iA (x:co):co:=gb { x with job:=x.job+1,sweep:=false,rests:=[],tries:=0,conf:=0 }
abbrev th (x:co)(a:fH)(draw:Int):co:=if a.err=0∧a.word≠0∧(x.yld=false∨a.word=x.since) then { x with yld:=true,since:=a.word } else oT x draw
abbrev fY (x:co):List Int:=if (x.slots.length:Int)=x.me then x.slots++[0] else x.slots
def rC (x:co):co :=
 if ((fY x).length:Int)<x.s.threads then { x with slots:=fY x }
 else if x.limbo.filter (fun r=>fe (fY x) r.stamp)=[] then iA { x with slots:=fY x,limbo:=x.limbo.filter fun r=>!fe (fY x) r.stamp }
 else gb { x with slots:=fY x,limbo:=x.limbo.filter (fun r=>!fe (fY x) r.stamp),sweep:=true,rests:=x.limbo.filter (fun r=>fe (fY x) r.stamp),tries:=0,conf:=0 }
abbrev BA (x:co):co:=if x.limbo=[] then iA x else rC { x with state:=5,slots:=[] }
abbrev xO (x:co)(since:Int):co:=rC { x with slots:=x.slots++[since] }
abbrev BU (x:co)(e:Int):co:=if e=4 then iA { x with limbo:=x.limbo++x.rests } else iA x
def lO (x:co)(a:bq)(draw pick:Int)(sl:ByteArray):co :=
 if a.fin=5 then (if 0≤a.by_∧a.by_<x.s.threads then { x with past:=x.past++[gh a x.born pick],tries:=IntKind.wrap .i64 (x.tries+1),conf:=IntKind.wrap .i64 (x.conf+1),state:=2,by_:=a.by_,yld:=false } else oT { x with past:=x.past++[gh a x.born pick],tries:=IntKind.wrap .i64 (x.tries+1),conf:=IntKind.wrap .i64 (x.conf+1) } draw)
 else if a.fin=3 then (if x.alarm=true then gb { x with past:=x.past++[gh a x.born pick],tries:=IntKind.wrap .i64 (x.tries+1) } else { x with past:=x.past++[gh a x.born pick],tries:=IntKind.wrap .i64 (x.tries+1),state:=4 })
 else if x.sweep=true then BU { x with past:=x.past++[gh a x.born pick],tries:=IntKind.wrap .i64 (x.tries+1) } a.fin
 else BA { x with past:=x.past++[gh a x.born pick],tries:=IntKind.wrap .i64 (x.tries+1),res:=x.res++[⟨a.fin,a.err,sl,a.stamp⟩],limbo:=x.limbo++a.freed.map fun n=>⟨n,a.stamp⟩ }
abbrev bj (x:co):rv×Bool :=
 if x.state=1 then (match x.now with | some a=>cn a | none=>(Ab,false))
 else if x.state=2 then (⟨8,x.by_,0,0,ah,ah⟩,true)
 else if x.state=5 then (⟨8,x.slots.length,0,0,ah,ah⟩,true)
 else (Ab,false)
abbrev qh (x:co)(a a':bq)(draw pick:Int)(sl:ByteArray):co :=
 if a'.state=8∧a'.fin≠0 then lO { x with now:=some a',born:=if a'.begun && !a.begun then pick else x.born } a' draw pick sl else { x with now:=some a',born:=if a'.begun && !a.begun then pick else x.born }
abbrev thrTell (x:co)(a:fH)(draw pick:Int)(sl:ByteArray):co :=
 if x.state=1 then (match x.now with | some at_=>qh x at_ (bm at_ a) draw pick sl | none=>x)
 else if x.state=2 then th x a draw
 else if x.state=5 then xO x (if a.err=0 then a.word else 0) else x
structure B0 (a:bq):Prop where
 gone:a.state=8
 fin:a.fin≠0
 known:a.v.k.length≤1000
 cells:a.v.l.cells.length≤1000
 frees:a.done=true→a.v.l.frees.length≤1000
 blocks:a.blocks.length≤100000
 items:a.done=true→Bd a.items
structure Ff (x:co)(a:fH):Prop where
 jobs:iQ x
 few:x.jobs.length≤1000000
 past:x.past.length≤1000000
 res:x.res.length≤1000000
 limbo:x.limbo.length+x.rests.length≤80000
 slots:x.state=5→x.slots.length≤4∧0≤x.me∧x.s.threads≤4
 run:x.state=1→x.job<x.jobs.length∧x.s.threads≤4∧0≤x.me∧∃at_,x.now=some at_∧nI at_ a∧((bm at_ a).state=8→B0 (bm at_ a)∧(x.sweep=false→(bm at_ a).freed.length≤1000))
 look:x.state=5→x.job<x.jobs.length
abbrev HA (l:List fQ)(s ver:Int):Bool:=l.any fun z=>decide (z.stripe=s) && !decide (z.version=ver)
def im (x:co)(s ver:Int):co:=match x.now with
 | none=>x
 | some a=>if HA a.rd s ver=true then (if x.state=4 then gb x else if x.state=1∧(!decide (a.state=8) && a.blocking)=true then { x with alarm:=true } else x) else x
abbrev mr (me:Int)(s:eO)(jobs:List (List bu)):co:=iA ⟨me,dj s,jobs,-1,0,false,[],0,0,none,0,false,[],[],[],[],0,0,false,0⟩
structure kI where
 s:eO
 mem:gn
 thr:List co
 picks:Int
def jg (i:Nat)(s ver:Int)(k:Nat)(l:List co):List co:=l.mapIdx fun j u=>if j<k∧j≠i then im u s ver else u
def lW (x:kI)(i:Nat)(t:co)(draw:Int)(sl:ByteArray):kI:={ x with mem:=(az x.mem (bj t).1).1,thr:=if (bj t).1.kind=5 then jg i (bj t).1.place (bj t).1.lock.version x.thr.length (x.thr.set i (thrTell t (az x.mem (bj t).1).2 draw (x.picks+1) sl)) else x.thr.set i (thrTell t (az x.mem (bj t).1).2 draw (x.picks+1) sl),picks:=x.picks+1 }
abbrev ru (x:kI)(i:Nat)(t:co):kI:={ x with thr:=x.thr.set i (io t),picks:=x.picks+1 }
structure PK (x:kI)(i:Nat)(t:co):Prop where
 at_:x.thr[i]? = some t
 few:x.thr.length≤4
 picks:0≤x.picks∧x.picks<1000000000
 run:t.state=1→∃a,t.now=some a∧(a.state≠0→a.state≠1→a.state≠2→a.state≠7→a.state≠8→a.inn.ok)
 slots:t.state=5→t.slots.length≤4
 jobs:iQ t
 pauses:(bj t).2=false→t.state=3→1≤t.pauses∧t.pauses≤100
 hear:(bj t).2=true→Ff t (az x.mem (bj t).1).2
 others:∀k u,x.thr[k]? = some u→k≠i→iQ u∧∀a,u.now=some a→a.rd.length≤1000
abbrev kN (m:gn)(k:Nat):gn:=if k≤5 then m else (az m ⟨2,5,0,14,ah,ah⟩).1
abbrev dp (s:eO)(rows:Nat):eO:=dj { s with threads:=rows }
abbrev eO.shape (s:eO):jv:=⟨s.words,s.stripes,s.wide,s.threads,s.start⟩
def jh (s:eO):Nat→List (List (List bu))→List co
 | _,[]=>[]
 | i,r::l=>mr i s r::jh s (i+1) l
abbrev eH (s:eO)(rows:List (List (List bu))):kI :=
 ⟨dp s rows.length,kN (t6 (dp s rows.length).shape) 6,jh (dp s rows.length) 0 rows,0⟩
abbrev em (t:co):List Ta:=t.past++(if t.state=1 then (match t.now with | some a=>if a.begun=true then [gh a t.born 0] else [] | none=>[]) else [])
abbrev vP (x:kI):List Ta:=x.thr.flatMap em
end Go.Proofs.YtoealglbimbbmaaGreatDoor.S
namespace Go.Proofs.YtoealglbimbbmaaGreatDoor.S
open Go Go.Proofs
set_option linter.unusedVariables false
set_option linter.unusedSimpArgs false
def Cw (cs:List au):Prop:=∀c∈cs,jM c.word
def Ln (s:kh):Prop:=∀r∈s.r::s.up,Cw r.c
structure Vg (s:fR):Prop where
 k:Cw s.k
 l:Ln s.l
section
variable {cs l:List au}{a x n b c:Int}{s:fR}{t:kh}
theorem bw {α:Type}{c:Prop} [Decidable c]{a b:α}{P:α→Prop}(h1:c→P a)(h2:¬c→P b):P (if c then a else b):=by
 by_cases h:c
 ·rw [if_pos h];exact h1 h
 ·rw [if_neg h];exact h2 h
theorem BM:jM (wU n):=by
 unfold jM wU IntKind.wrap
 simp [IntKind.signed,IntKind.bits,IntKind.min,IntKind.max]
 omega
theorem Cw.nil:Cw []:=fun _ h=>by cases h
theorem Cw.cons (h1:jM x)(h2:Cw cs):Cw (⟨a,x⟩::cs):=fun c hc=>(List.mem_cons.1 hc).elim (fun e=>by rw [e];exact h1) (h2 c)
theorem Cw.put (hx:jM x):∀{cs:List au},Cw cs→Cw (i5 cs a x)
 | [],_=>Cw.cons hx .nil
 | c::cs,h=>by
  unfold i5
  split
  ·exact .cons hx fun d hd=>h d (List.mem_cons_of_mem _ hd)
  ·exact fun d hd=>(List.mem_cons.1 hd).elim (fun e=>by rw [e];exact h c List.mem_cons_self) (Cw.put hx (cs:=cs) (fun e he=>h e (List.mem_cons_of_mem _ he)) d)
theorem Cw.puts:∀{l cs:List au},Cw cs→Cw l→Cw (ip cs l)
 | [],_,h,_=>h
 | c::l,cs,h,hl=>Cw.puts (l:=l) (cs:=i5 cs c.place c.word) (Cw.put (hl c List.mem_cons_self) h) fun d hd=>hl d (List.mem_cons_of_mem _ hd)
theorem Cw.look:∀{cs:List au},Cw cs→fl cs a=some x→jM x
 | [],_,e=>by cases e
 | c::cs,h,e=>by
  unfold fl at e
  split at e
  ·cases e;exact h c List.mem_cons_self
  ·exact Cw.look (cs:=cs) (fun d hd=>h d (List.mem_cons_of_mem _ hd)) e
theorem MB:∀{l:List Lv},(∀r∈l,Cw r.c)→qj l a=some x→jM x
 | [],_,e=>by cases e
 | r::l,h,e=>by
  unfold qj at e
  split at e
  ·rename_i h1;cases e;exact(h r List.mem_cons_self).look h1
  ·exact MB (l:=l) (fun d hd=>h d (List.mem_cons_of_mem _ hd)) e
theorem Vg.read (h:Vg s):Vg (cr s a).1∧jM (cr s a).2.1:=by
 unfold cr
 split
 ·split
  ·rename_i h1;exact⟨h,MB h.l h1⟩
  ·split
   ·rename_i h1;exact⟨h,h.k.look h1⟩
   ·exact⟨⟨h.k,h.l⟩,kU⟩
 ·exact⟨h,kU⟩
theorem Ln.put (h:Ln t)(hx:jM x):Ln (t.put a x):=fun r hr=>by
 rcases List.mem_cons.1 hr with e | e
 ·rw [e];exact(h t.r List.mem_cons_self).put hx
 ·exact h r (List.mem_cons_of_mem _ e)
theorem Ln.puts:∀{l:List au}{t:kh},Ln t→Cw l→Ln (jk t l).1
 | [],_,h,_=>h
 | c::l,t,h,hl=>by
  unfold jk
  split
  ·exact Ln.puts (h.put (hl c List.mem_cons_self)) fun d hd=>hl d (List.mem_cons_of_mem _ hd)
  ·exact h
theorem Vg.take (h:Vg s)(hl:Cw l):Vg (gU s l).1:=by
 unfold gU
 split
 ·refine⟨h.k,?_⟩
  show Ln (pu s.l l).1
  unfold pu
  split
  ·exact h.l.puts hl
  ·exact h.l
 ·exact h
theorem Vg.write (h:Vg s)(hx:jM x):Vg (se s a x).1:=by
 unfold se
 split
 ·refine⟨h.k,?_⟩
  show Ln (Qv s.l a x).1
  unfold Qv
  simp only
  split
  ·exact h.l.put hx
  ·exact h.l
 ·exact h
theorem Vg.know (h:Vg s)(hx:jM x):Vg (yJ s a x).1:=by
 unfold yJ
 split
 ·split
  ·exact h
  ·exact⟨fun c hc=>(List.mem_append.1 hc).elim (h.k c) fun e=>by rw [List.mem_singleton.1 e];exact hx,h.l⟩
 ·exact h
theorem Vg.open_ (h:Vg s):Vg (s.log (lK s.l).1):=by
 refine⟨h.k,?_⟩
 show Ln (lK s.l).1
 unfold lK
 split
 ·exact h.l
 ·exact fun r hr=>(List.mem_cons.1 hr).elim (fun e=>by rw [e];exact .nil) (h.l r)
theorem Vg.drop (h:Vg s):Vg (s.log (fX s.l).1):=by
 refine⟨h.k,?_⟩
 show Ln (fX s.l).1
 unfold fX
 split
 ·exact h.l
 ·rename_i q up e
  exact fun r hr=>h.l r (List.mem_cons_of_mem _ (by rw [e];exact hr))
theorem Vg.keep (h:Vg s):Vg (s.log (m9 s.l).1):=by
 refine⟨h.k,?_⟩
 show Ln (m9 s.l).1
 unfold m9
 split
 ·exact h.l
 ·rename_i q up e
  have h1:=h.l
  unfold Ln at h1
  rw [e] at h1
  intro r hr
  rcases List.mem_cons.1 hr with g | g
  ·rw [g];exact Cw.puts (h1 q (by simp)) (h1 s.l.r (by simp))
  ·exact h1 r (by simp [g])
theorem Vg.free (h:Vg s):Vg (s.log (s.l.free n)):=⟨h.k,fun r hr=>by
 rcases List.mem_cons.1 hr with g | g
 ·rw [g];exact h.l s.l.r List.mem_cons_self
 ·exact h.l r (List.mem_cons_of_mem _ g)⟩
theorem Vg.again (h:Vg s):Vg (si s c b).1:=by
 unfold si
 have h1:=h.read (a:=iF b)
 have h2:=h1.1.take (l:=[⟨ir c,(cr s (iF b)).2.1⟩,⟨iF (iF b-1),wU (iF (c+8))⟩]) (.cons h1.2 (.cons BM .nil))
 split
 ·exact h
 ·split
  ·split <;> exact h2
  ·exact h1.1
theorem Vg.grown (h:Vg s):Vg (rY s c).1:=by
 unfold rY
 have h1:=h.read (a:=5)
 have h2:=h1.1.take (l:=w6 (cr s 5).2.1 c) (.cons BM (.cons BM .nil))
 split
 ·split
  ·exact h1.1
  ·split <;> exact h2
 ·exact h1.1
theorem Vg.alloc (h:Vg s):Vg (jE s n).1:=by
 unfold jE
 have h1:=h.read (a:=ir (kQ n))
 split
 ·exact h
 ·split
  ·split
   ·exact h1.1.grown
   ·exact h1.1.again
  ·exact h1.1
theorem Vg.asked (h:Vg s):Vg (i0 s b).1:=by
 unfold i0
 have h1:=h.read (a:=iF (b-1))
 split
 ·exact h
 ·split
  ·split <;> exact h1.1
  ·exact h1.1
theorem Vg.freed (h:Vg s):Vg (zt s b).1:=by
 unfold zt DX
 have h1:=h.asked (b:=b)
 generalize i0 s b=q at h1 ⊢
 have h2:=h1.take (l:=[⟨iF (b-1),wU q.2.1⟩]) (.cons BM .nil)
 split
 ·split
  ·split
   ·exact h2.free
   ·exact h2
  ·exact h1
 ·exact h1
theorem Vg.give (h:Vg s):Vg (pB s b).1:=by
 unfold pB DT
 have h1:=h.asked (b:=b)
 generalize i0 s b=q at h1 ⊢
 have h2:=h1.read (a:=ir q.2.1)
 split
 ·split
  ·exact h1
  ·split
   ·exact h2.1.take (.cons h2.2 (.cons BM .nil))
   ·exact h2.1
 ·exact h1
theorem Vg.gives:∀{l:List Int}{g:Nat}{s:fR},Vg s→Vg (jx l g s).2.1
 | [],_,_,h=>h
 | b::l,g,s,h=>by
  unfold jx
  split
  ·exact Vg.gives h.give
  ·split <;> exact h.give
end
def Ru (r:yp):Prop:=∀k,jM (r.get k)
structure Rg (x:fm):Prop where
 regs:Ru x.r
 ops:∀q∈x.op,Ru q.regs
 items:∀n∈x.items,jM n
 prog:∀i∈x.prog,jM i.n
section
variable {x:fm}{s:fR}{k:Nat}{y:Int}{i:bu}
theorem Ru.set {r:yp}(h:Ru r)(hy:jM y):Ru (r.set k y):=fun j=>by
 have h0:=h 0;have h1:=h 1;have h2:=h 2;have h3:=h 3;have h4:=h 4;have h5:=h 5;have h6:=h 6;have h7:=h 7
 unfold yp.set
 split <;> (unfold yp.get;split <;> first | exact hy | assumption)
theorem Rg.set (h:Rg x)(hy:jM y):Rg (rb x k y):=⟨h.regs.set hy,h.ops,h.items,h.prog⟩
theorem Rg.begin (h:Rg x)(hs:Vg s){o a:Int}:Rg (iT x s o a).1∧Vg (iT x s o a).2.1:=by
 unfold iT
 split
 ·exact⟨⟨h.regs,fun q hq=>(List.mem_cons.1 hq).elim (fun e=>by rw [e];exact h.regs) (h.ops q),h.items,h.prog⟩,hs.open_⟩
 ·exact⟨h,hs.open_⟩
theorem Rg.retry:∀{ps:List jW}{s:fR},Rg x→Vg s→(∀q∈ps,Ru q.regs)→Rg (gP x s ps).1∧Vg (gP x s ps).2.1
 | [],s,h,hs,_=>⟨⟨h.regs,by simp [gP],h.items,h.prog⟩,hs⟩
 | q::ps,s,h,hs,hp=>by
  have hp2:∀p∈ps,Ru p.regs:=fun p hp2=>hp p (List.mem_cons_of_mem _ hp2)
  rw [xq]
  split
  ·split
   ·refine Rg.begin ?_ hs.drop
    exact⟨hp q List.mem_cons_self,hp2,fun n hn=>h.items n (List.mem_of_mem_take hn),h.prog⟩
   ·exact Rg.retry h hs.drop hp2
  ·exact⟨⟨h.regs,hp2,h.items,h.prog⟩,hs.drop⟩
theorem Jm (h:Rg x):∀q∈x.op.tail,Ru q.regs:=fun q hq=>h.ops q (List.mem_of_mem_tail hq)
theorem Rg.turn (h:Rg x)(hs:Vg s){o:Int}:Rg (A1 x s o).1∧Vg (A1 x s o).2.1:=by
 unfold A1
 split
 ·exact h.begin hs
 ·split
  ·exact⟨⟨h.regs,Jm h,h.items,h.prog⟩,hs.keep⟩
  ·split
   ·exact⟨⟨h.regs,Jm h,h.items,h.prog⟩,hs.keep⟩
   ·split
    ·refine⟨⟨?_,Jm h,fun n hn=>h.items n (List.mem_of_mem_take hn),h.prog⟩,hs.drop⟩
     cases hop:x.op with
     | nil=>intro k;simp only [List.headD_nil];unfold yp.get;split <;> exact kU
     | cons q l=>exact h.ops q (by rw [hop];exact List.mem_cons_self)
    ·exact h.retry hs h.ops
theorem Rg.touch (h:Rg x)(hs:Vg s):Rg (tD x s i).1∧Vg (tD x s i).2.1:=by
 unfold tD
 split
 ·split
  ·exact⟨h,hs⟩
  ·have h1:=hs.read (a:=(gN (x.r.get (m8 i.b)) i.c).1)
   split
   ·exact⟨h.set h1.2,h1.1⟩
   ·exact⟨h,h1.1⟩
 ·split
  ·split
   ·exact⟨h,hs⟩
   ·exact⟨h,hs.write (h.regs _)⟩
  ·split
   ·split
    ·exact⟨h,hs⟩
    ·split
     ·exact⟨h.set BM,hs.alloc⟩
     ·exact⟨h,hs.alloc⟩
   ·split
    ·exact⟨h,hs⟩
    ·exact⟨h,hs.freed⟩
abbrev RV (R:fm×fR×Int):Prop:=Rg R.1∧Vg R.2.1
theorem KA {t:Bool}:jM (B3 t):=by cases t <;> exact⟨by decide,by decide⟩
theorem Rg.do_ (h:Rg x)(hs:Vg s)(hi:jM i.n):Rg (QY x s i).1∧Vg (QY x s i).2.1:=by
 unfold QY
 refine bw (P:=RV) (fun _=>⟨h.set hi,hs⟩) fun _=>?_
 refine bw (P:=RV) (fun _=>⟨h.set (h.regs _),hs⟩) fun _=>?_
 refine bw (P:=RV) (fun _=>⟨h.set BM,hs⟩) fun _=>?_
 refine bw (P:=RV) (fun _=>⟨h.set BM,hs⟩) fun _=>?_
 refine bw (P:=RV) (fun _=>⟨h.set BM,hs⟩) fun _=>?_
 refine bw (P:=RV) (fun _=>⟨h.set KA,hs⟩) fun _=>?_
 refine bw (P:=RV) (fun _=>⟨h.set KA,hs⟩) fun _=>?_
 refine bw (P:=RV) (fun _=>⟨⟨h.regs,h.ops,h.items,h.prog⟩,hs⟩) fun _=>?_
 refine bw (P:=RV) (fun _=>⟨bw (P:=Rg) (fun _=>⟨h.regs,h.ops,h.items,h.prog⟩) fun _=>h,hs⟩) fun _=>?_
 refine bw (P:=RV) (fun _=>bw (P:=RV) (fun _=>⟨⟨h.regs,h.ops,fun n hn=>(List.mem_append.1 hn).elim (h.items n) fun e=>by rw [List.mem_singleton.1 e];exact h.regs _,h.prog⟩,hs⟩) fun _=>⟨h,hs⟩) fun _=>?_
 refine bw (P:=RV) (fun _=>⟨h,hs⟩) fun _=>?_
 exact bw (P:=RV) (fun _=>h.touch hs) fun _=>h.turn hs
theorem Rg.step (h:Rg x)(hs:Vg s):Rg (gH x s).1∧Vg (gH x s).2.1:=by
 unfold gH
 refine Rg.do_ ⟨h.regs,h.ops,h.items,h.prog⟩ hs ?_
 show jM (x.prog.getD x.pos.toNat ⟨0,0,0,0,0⟩).n
 rw [List.getD_eq_getElem?_getD]
 cases e:x.prog[x.pos.toNat]? with
 | none=>exact kU
 | some i=>exact h.prog i (List.mem_of_getElem? e)
theorem Rg.run:∀{n:Nat}{x:fm}{s:fR},Rg x→Vg s→Rg (jp n x s).1∧Vg (jp n x s).2.1
 | 0,_,_,h,hs=>⟨h,hs⟩
 | n+1,x,s,h,hs=>by
  have h1:=h.step hs
  have hf:∀{x:fm} {e:Int},Rg x→Rg (x.failed e):=fun h=>⟨h.regs,h.ops,h.items,h.prog⟩
  unfold jp
  split
  ·exact⟨h,hs⟩
  split
  ·exact⟨hf h,hs⟩
  split
  ·exact⟨⟨h.regs,h.ops,h.items,h.prog⟩,hs⟩
  split
  ·exact⟨hf h,hs⟩
  split
  ·exact Rg.run ⟨h1.1.regs,h1.1.ops,h1.1.items,h1.1.prog⟩ h1.2
  split
  ·exact h1
  ·exact⟨hf h1.1,h1.2⟩
end
def Tr:tH→Prop
 | .fetch f=>jM f.word
 | .com m=>Cw m.cells
 | _=>True
structure jo (a:bq):Prop where
 run:∀r,a.run=some r→Rg r
 v:Vg a.v
 inn:Tr a.inn
section
variable {x:bq}{m:gn}{o:rv}{c:eJ}{f:fT}{an:fH}
theorem FY:(iu c).cells=c.cells:=by unfold iu;split <;> rfl
theorem xU {e er b:Int}:(gw c e er b).cells=c.cells:=by unfold gw;rw [FY]
theorem G9 {l:cw}:(jn c l).cells=c.cells:=by unfold jn;split;rfl;rw [xU]
theorem HM:(jm c).cells=c.cells:=by unfold jm;split <;> rfl
theorem EB:(jw c).cells=c.cells:=by unfold jw;split;rw [HM];rfl
theorem Ec:(o5 c).cells=c.cells:=by unfold o5;rw [EB]
theorem KD:∀{n:Nat}{c:eJ},(kP n c).cells=c.cells
 | 0,_=>Ec
 | n+1,c=>by
  unfold kP
  split
  ·rfl
  ·split
   ·rw [KD]
   ·exact xU
theorem EA:(oc c).cells=c.cells:=by unfold oc;rw [KD]
theorem K8 {l:cw}:(ll c l).cells=c.cells:=by
 unfold ll
 split
 ·exact G9
 ·split
  ·rw [EA]
  ·exact xU
theorem Nv:(pZ c an).cells=c.cells:=by
 unfold pZ
 split
 ·split
  ·exact G9
  ·rfl
 ·split <;> rfl
abbrev Uz (c z:eJ):Prop:=z.cells=c.cells
theorem Le:(ml c an).cells=c.cells:=by
 unfold ml
 refine bw (P:=Uz c) (fun _=>bw (P:=Uz c) (fun _=>xU) fun _=>rfl) fun _=>bw (P:=Uz c) (fun _=>rfl) fun _=>bw (P:=Uz c) (fun _=>Ec) fun _=>EA
theorem OS:(cy c an).cells=c.cells:=by
 unfold cy
 refine bw (P:=Uz c) (fun _=>?_) fun _=>rfl
 split
 ·exact Nv
 split
 ·exact Le
 split
 ·exact K8
 split
 ·exact EB
 split
 ·exact HM
 ·exact FY
theorem Tu (hm:∀n∈m.w,jM n){k:Nat}:jM (m.w.getD k 0):=by
 rw [List.getD_eq_getElem?_getD]
 cases e:m.w[k]? with
 | none=>exact kU
 | some n=>exact hm n (List.mem_of_getElem? e)
abbrev J5 (z:gn×fH):Prop:=∀n∈z.1.w,jM n
theorem Ss (hm:∀n∈m.w,jM n)(ho:o.kind=2→jM o.word):∀n∈(az m o).1.w,jM n:=by
 have h1:J5 (bx m o):=by
  unfold bx
  refine bw (P:=J5) (fun _=>bw (P:=J5) (fun _=>hm) fun _=>hm) fun _=>?_
  refine bw (P:=J5) (fun h2=>bw (P:=J5) (fun _ n hn=>(List.mem_or_eq_of_mem_set hn).elim (hm n) fun e=>by rw [e];exact ho h2) fun _=>hm) fun _=>?_
  refine bw (P:=J5) (fun _=>hm) fun _=>bw (P:=J5) (fun _=>hm) fun _=>bw (P:=J5) (fun _=>hm) fun _=>bw (P:=J5) (fun _=>hm) fun _=>?_
  refine bw (P:=J5) (fun _=>bw (P:=J5) (fun _=>hm) fun _=>bw (P:=J5) (fun _=>hm) fun _=>bw (P:=J5) (fun _=>hm) fun _=>hm) fun _=>?_
  exact bw (P:=J5) (fun _=>bw (P:=J5) (fun _=>hm) fun _=>hm) fun _=>bw (P:=J5) (fun _=>bw (P:=J5) (fun _=>hm) fun _=>hm) fun _=>hm
 unfold az
 split <;> exact h1
theorem P1 (hm:∀n∈m.w,jM n)(ho:o.kind=1):jM (az m o).2.word:=by
 have h1:jM (bx m o).2.word:=by
  unfold bx
  rw [if_pos ho]
  split
  ·exact Tu hm
  ·exact kU
 unfold az
 split <;> exact h1
theorem JP {p:oU}{e:Int}(h:(p.stopped e).fin=0):p.fin=0:=by
 unfold oU.stopped at h
 split at h
 ·rename_i g;exact g.1
 ·exact h
theorem R4 {l:cw}:(kS f l).word=f.word:=by
 unfold kS
 exact bw (P:=fun z:fT=>z.word=f.word) (fun _=>bw (P:=fun z:fT=>z.word=f.word) (fun _=>rfl) fun _=>rfl) fun _=>bw (P:=fun z:fT=>z.word=f.word) (fun _=>rfl) fun _=>rfl
theorem Tr.tell (hm:∀n∈m.w,jM n):∀{i:tH},Tr i→Tr (i.tell (az m i.next.1).2)
 | .none,_=>trivial
 | .ext _,_=>trivial
 | .com c,h=>by
  show Cw (cy c _).cells
  rw [OS];exact h
 | .fetch f,h=>by
  show jM (gS f (az m (gE f).1).2).word
  unfold gS
  split
  ·rename_i h0
   have hf:=JP h0
   split
   ·rename_i h1
    refine P1 hm ?_
    unfold gE
    rw [if_pos hf,if_pos h1]
   ·split
    ·exact h
    ·rw [R4];exact h
  ·exact h
theorem Tr.next:∀{i:tH},Tr i→i.next.1.kind=2→jM i.next.1.word
 | .none,_,g=>by cases g
 | .ext e,_,g=>by
  have g:(l7 e).1.kind=2:=g
  unfold l7 at g
  split at g
  ·split at g <;> cases g
  ·cases g
 | .fetch f,_,g=>by
  have g:(gE f).1.kind=2:=g
  unfold gE at g
  split at g
  ·split at g <;> cases g
  ·cases g
 | .com c,h,g=>by
  have g:(bi c).1.kind=2:=g
  show jM (bi c).1.word
  unfold bi at g ⊢
  split at g
  ·rename_i h0
   rw [if_pos h0]
   have hc:jM (c.cells.getD c.pos ⟨0,0⟩).word:=by
    rw [List.getD_eq_getElem?_getD]
    cases e:c.cells[c.pos]? with
    | none=>exact kU
    | some z=>exact h z (List.mem_of_getElem? e)
   simp only at g ⊢
   by_cases c0:c.state=0
   ·rw [if_pos c0] at g;cases g
   by_cases c1:c.state=1
   ·rw [if_neg c0,if_pos c1] at g;cases g
   by_cases c2:c.state=2
   ·rw [if_neg c0,if_neg c1,if_pos c2] at g;cases g
   by_cases c3:c.state=3
   ·rw [if_neg c0,if_neg c1,if_neg c2,if_pos c3] at g;cases g
   by_cases c4:c.state=4
   ·rw [if_neg c0,if_neg c1,if_neg c2,if_neg c3,if_pos c4] at g;cases g
   by_cases c5:c.state=5
   ·rw [if_neg c0,if_neg c1,if_neg c2,if_neg c3,if_neg c4,if_pos c5];exact hc
   ·rw [if_neg c0,if_neg c1,if_neg c2,if_neg c3,if_neg c4,if_neg c5] at g
    split at g <;> cases g
  ·cases g
theorem Qi {s:kh}(h:Ln s):Cw s.cells:=by
 unfold kh.cells
 have key:∀{l:List Lv} {cs:List au},(∀r∈l,Cw r.c)→Cw cs→Cw (l.foldl (fun out q=>ip q.c out) cs):=fun {l}=>by
  induction l with
  | nil=>intro cs _ h;exact h
  | cons q l ih=>intro cs h1 h2;exact ih (fun r hr=>h1 r (List.mem_cons_of_mem _ hr)) (Cw.puts (h1 q List.mem_cons_self) h2)
 exact key (fun r hr=>h r (List.mem_cons_of_mem _ hr)) (h s.r List.mem_cons_self)
theorem jo.out (h:jo x){e er b:Int}:jo (hN x e er b):=⟨h.run,h.v,h.inn⟩
theorem jo.ask (h:jo x){c:Int}:jo (zy x c):=⟨h.run,h.v,kU⟩
theorem jo.later (h:jo x){s:Int}:jo (tt x s):=⟨h.run,h.v,trivial⟩
theorem jo.did {q:bq×Int×Int}(h:jo q.1):jo (F6 q):=by
 unfold F6
 refine bw (fun _=>h.ask) fun _=>bw (fun _=>?_) fun _=>bw (fun _=>h.out) fun _=>bw (fun _=>h.out) fun _=>?_
 ·exact⟨h.run,h.v,trivial⟩
 ·exact⟨h.run,h.v,Qi h.v.l⟩
theorem jo.work (h:jo x):jo (pR x):=by
 unfold pR
 refine jo.did ?_
 unfold jD
 cases e:x.run with
 | none=>exact⟨fun r g=>(by cases g),h.v.gives,h.inn⟩
 | some r =>
  have h1:=(h.run r e).run (n:=500) h.v
  exact⟨fun r g=>(by cases g;exact h1.1),h1.2,h.inn⟩
theorem jo.fetched (h:jo x)(hf:jM f.word):jo (iV x f):=by
 unfold iV
 refine bw (fun _=>h.later) fun _=>bw (fun _=>jo.work ⟨h.run,h.v.know hf,h.inn⟩) fun _=>bw (fun _=>?_) fun _=>?_
 ·exact⟨h.run,h.v,h.inn⟩
 ·exact⟨h.run,h.v,h.inn⟩
theorem jo.ended (h:jo x):jo (pg x):=by
 unfold pg
 have hi:=h.inn
 cases e:x.inn with
 | none=>exact h
 | fetch f=>rw [e] at hi;exact h.fetched hi
 | ext m=>exact bw (fun _=>⟨h.run,h.v,kU⟩) fun _=>⟨h.run,h.v,trivial⟩
 | com m=>exact h.out
theorem jo.mark (h:jo x):jo (jR x):=by
 unfold jR
 exact bw (fun _=>⟨h.run,h.v,h.inn⟩) fun _=>h
theorem jo.tell (h:jo x)(hi:Tr (x.inn.tell an)):jo (bm x an):=by
 unfold bm
 refine bw (fun _=>h) fun _=>bw (fun _=>⟨h.run,h.v,h.inn⟩) fun _=>bw (fun _=>⟨h.run,h.v,h.inn⟩) fun _=>bw (fun _=>h.work) fun _=>bw (fun _=>⟨h.run,h.v,h.inn⟩) fun _=>?_
 unfold fZ
 have h2:jo { x with inn:=x.inn.tell an }:=⟨h.run,h.v,hi⟩
 exact jo.mark (bw (fun _=>h2) fun _=>bw (fun _=>h2.out) fun _=>h2.ended)
theorem jo.items (h:jo x):∀n∈x.items,jM n:=by
 unfold bq.items
 cases e:x.run with
 | none=>simp
 | some r=>exact(h.run r e).items
end
structure fV (t:co):Prop where
 jobs:∀p∈t.jobs,∀i∈p,jM i.n
 now:∀a,t.now=some a→jo a
structure sq (x:kI):Prop where
 mem:∀n∈x.mem.w,jM n
 thr:∀t∈x.thr,fV t
section
variable {x:co}{m:kI}{t u:co}{a:bq}{an:fH}{draw pick:Int}{sl:ByteArray}{i:Nat}
theorem Mr {me:Int}{s:eO}:Vg (qt me s).v:=⟨.nil,fun r hr=>by
 rcases List.mem_cons.1 hr with e | e
 ·rw [e];exact .nil
 ·cases e⟩
theorem fV.again (h:fV x):fV (gb x):=by
 unfold gb
 cases e:x.jobs[x.job.toNat]? with
 | none=>exact⟨h.jobs,fun a g=>(by cases g)⟩
 | some p =>
  refine⟨h.jobs,fun a g=>?_⟩
  simp only [Option.some.injEq] at g
  subst g
  refine bw (fun _=>⟨fun r g=>(by cases g),Mr (me:=x.me),trivial⟩) fun _=>⟨fun r g=>?_,Mr (me:=x.me),trivial⟩
  cases g
  refine⟨fun k=>?_,by simp,by simp,h.jobs p (List.mem_of_getElem? e)⟩
  show jM (yp.get ⟨0,0,0,0,0,0,0,0⟩ k)
  unfold yp.get
  split <;> exact kU
theorem fV.eqs (h:fV x)(h1:u.jobs=x.jobs)(h2:u.now=x.now):fV u:=⟨by rw [h1];exact h.jobs,by rw [h2];exact h.now⟩
theorem fV.pause (h:fV x):fV (oT x draw):=by
 unfold oT
 exact bw (fun _=>fV.again (h.eqs rfl rfl)) fun _=>h.eqs rfl rfl
theorem fV.rest (h:fV x):fV (io x):=by
 unfold io
 exact bw (fun _=>bw (fun _=>fV.again (h.eqs rfl rfl)) fun _=>h.eqs rfl rfl) fun _=>h
theorem fV.follow (h:fV x):fV (iA x):=fV.again (h.eqs rfl rfl)
theorem fV.yield (h:fV x):fV (th x an draw):=by
 unfold th
 exact bw (fun _=>h.eqs rfl rfl) fun _=>h.pause
theorem fV.look (h:fV x):fV (rC x):=by
 unfold rC
 exact bw (fun _=>h.eqs rfl rfl) fun _=>bw (fun _=>fV.follow (h.eqs rfl rfl)) fun _=>fV.again (h.eqs rfl rfl)
theorem fV.over (h:fV x):fV (BA x):=by
 unfold BA
 exact bw (fun _=>h.follow) fun _=>fV.look (h.eqs rfl rfl)
theorem fV.ended (h:fV x):fV (lO x a draw pick sl):=by
 unfold lO
 refine bw (fun _=>bw (fun _=>h.eqs rfl rfl) fun _=>fV.pause (h.eqs rfl rfl)) fun _=>bw (fun _=>bw (fun _=>fV.again (h.eqs rfl rfl)) fun _=>h.eqs rfl rfl) fun _=>bw (fun _=>?_) fun _=>fV.over (h.eqs rfl rfl)
 unfold BU
 exact bw (fun _=>fV.follow (h.eqs rfl rfl)) fun _=>fV.follow (h.eqs rfl rfl)
theorem fV.wake {s v:Int}(h:fV x):fV (im x s v):=by
 unfold im
 cases e:x.now with
 | none=>exact h
 | some a=>exact bw (fun _=>bw (fun _=>h.again) fun _=>bw (fun _=>h.eqs rfl e.symm) fun _=>h) fun _=>h
theorem sq.ans (h:sq m)(ht:t∈m.thr)(h1:t.state=1)(ha:t.now=some a):jo (bm a (az m.mem (cn a).1).2):=by
 have hA:=(h.thr t ht).now a ha
 by_cases c:a.state=8∨a.state=0∨a.state=1∨a.state=2∨a.state=7
 ·
  rcases c with c | c | c | c | c
  all_goals
   unfold bm
   simp only [c,Int.reduceEq,if_false,if_true]
  ·exact hA
  ·exact⟨hA.run,hA.v,hA.inn⟩
  ·exact⟨hA.run,hA.v,hA.inn⟩
  ·exact hA.work
  ·exact⟨hA.run,hA.v,hA.inn⟩
 ·have e:cn a=a.inn.next:=by
   unfold cn
   rw [if_neg (fun g=>c (.inr (.inl g))),if_neg (fun g=>c (.inr (.inr (.inl g)))),if_neg (fun g=>c (.inr (.inr (.inr (.inl g))))),if_neg (fun g=>c (.inr (.inr (.inr (.inr g))))),if_neg (fun g=>c (.inl g))]
  rw [e]
  exact hA.tell (hA.inn.tell h.mem)
abbrev TI (z:rv×Bool):Prop:=z.1.kind=2→jM z.1.word
theorem sq.op (h:sq m)(ht:t∈m.thr):(bj t).1.kind=2→jM (bj t).1.word:=by
 unfold bj
 by_cases c1:t.state=1
 ·rw [if_pos c1]
  cases ha:t.now with
  | none=>intro g;cases g
  | some a =>
   have hA:=(h.thr t ht).now a ha
   simp only
   unfold cn
   refine bw (P:=TI) (fun _ g=>(by cases g)) fun _=>bw (P:=TI) (fun _ g=>(by cases g)) fun _=>bw (P:=TI) (fun _ g=>(by cases g)) fun _=>bw (P:=TI) (fun _ g=>(by cases g)) fun _=>bw (P:=TI) (fun _ g=>(by cases g)) fun _=>hA.inn.next
 ·rw [if_neg c1]
  exact bw (P:=TI) (fun _ g=>(by cases g)) fun _=>bw (P:=TI) (fun _ g=>(by cases g)) fun _ g=>(by cases g)
theorem sq.thrTell (h:sq m)(ht:t∈m.thr):fV (thrTell t (az m.mem (bj t).1).2 draw pick sl):=by
 have hT:=h.thr t ht
 unfold S.thrTell
 by_cases c1:t.state=1
 ·rw [if_pos c1]
  cases ha:t.now with
  | none=>exact hT
  | some a =>
   have en:bj t=cn a:=by unfold bj;rw [if_pos c1,ha]
   have hU:=h.ans ht c1 ha
   rw [en]
   simp only
   unfold qh
   have h2:fV { t with now:=some (bm a (az m.mem (cn a).1).2),born:=if (bm a (az m.mem (cn a).1).2).begun && !a.begun then pick else t.born }:=⟨hT.jobs,fun b g=>(by cases g;exact hU)⟩
   exact bw (fun _=>h2.ended) fun _=>h2
 ·rw [if_neg c1]
  refine bw (fun _=>hT.yield) fun _=>bw (fun _=>?_) fun _=>hT
  unfold xO
  exact fV.look (hT.eqs rfl rfl)
theorem PO {k j:Nat}{s v:Int}{l:List co}(h:∀t∈l,fV t):∀t∈jg j s v k l,fV t:=fun t ht=>by
 unfold jg at ht
 obtain⟨q,hq,rfl⟩:=List.mem_mapIdx.1 ht
 exact bw (fun _=>(h _ (List.getElem_mem _)).wake) fun _=>h _ (List.getElem_mem _)
theorem Nf {l:List co}(h:∀t∈l,fV t)(hu:fV u):∀t∈l.set i u,fV t:=fun t ht=>(List.mem_or_eq_of_mem_set ht).elim (h t) fun e=>by rw [e];exact hu
theorem sq.step (h:sq m)(ht:m.thr[i]? = some t):sq (if (bj t).2=true then lW m i t draw sl else ru m i t):=by
 have hm:=List.mem_of_getElem? ht
 refine bw (fun _=>?_) fun _=>?_
 ·unfold lW
  refine⟨Ss h.mem (h.op hm),?_⟩
  have h2:=Nf (i:=i) h.thr (h.thrTell (draw:=draw) (pick:=m.picks+1) (sl:=sl) hm)
  exact bw (P:=fun l:List co=>∀t∈l,fV t) (fun _=>PO h2) fun _=>h2
 ·exact⟨h.mem,Nf h.thr (h.thr t hm).rest⟩
theorem sq.new {s:eO}{rows:List (List (List bu))}(hr:∀r∈rows,∀p∈r,∀i∈p,jM i.n):sq (eH s rows):=by
 refine⟨?_,?_⟩
 ·show ∀n∈(kN (t6 _) 6).w,jM n
  refine Ss (o:=⟨2,5,0,14,ah,ah⟩) (fun n hn=>?_) (fun _=>⟨by decide,by decide⟩)
  rw [List.eq_of_mem_replicate hn];exact kU
 ·have key:∀{l:List (List (List bu))} {S:eO} {k:Nat},(∀r∈l,∀p∈r,∀i∈p,jM i.n)→∀t∈jh S k l,fV t:=fun {l}=>by
   induction l with
   | nil=>intro S k _ t ht;cases ht
   | cons r l ih =>
    intro S k h t ht
    rcases List.mem_cons.1 ht with e | e
    ·rw [e]
     exact fV.follow ⟨h r List.mem_cons_self,fun a g=>(by cases g)⟩
    ·exact ih (fun q hq=>h q (List.mem_cons_of_mem _ hq)) t e
  exact key hr
end
end Go.Proofs.YtoealglbimbbmaaGreatDoor.S
