import Derived.Test.YtoealglbimbbmaaGreatDoorOTxt
import Derived.Test.YtoealglbimbbmaaGreatDoorCommitW
import Derived.Test.YtoealglbimbbmaaGreatDoorReads
import Derived.Test.YtoealglbimbbmaaGreatDoorMem
import Derived.Test.YtoealglbimbbmaaGreatDoorLimbo
namespace Go.Proofs.YtoealglbimbbmaaGreatDoor.S
open Go Go.Proofs
set_option linter.unusedVariables false
set_option linter.unusedSimpArgs false
inductive tt where
 | none
 | fetch (f:fQ)
 | ext (x:vq)
 | com (x:eK)
abbrev tt.fin:tt→Int
 | .none=>0
 | .fetch f=>f.pat.fin
 | .ext f=>f.pat.fin
 | .com f=>f.pat.fin
abbrev tt.by_:tt→Int
 | .none=>0
 | .fetch f=>f.pat.by_
 | .ext f=>f.pat.by_
 | .com f=>f.pat.by_
abbrev tt.next:tt→rq×Bool
 | .none=>(zx,false)
 | .fetch f=>gB f
 | .ext f=>mm f
 | .com f=>bi f
abbrev tt.tell (a:fG):tt→tt
 | .none=>.none
 | .fetch f=>.fetch (gR f a)
 | .ext f=>.ext (nQ f a)
 | .com f=>.com (cy f a)
abbrev tt.ok:tt→Prop
 | .none=>False
 | .fetch _=>True
 | .ext f=>J0 f∧f.seen.length≤1000000
 | .com f=>iI f
abbrev tt.wr:tt→Bool
 | .com f=>(f.writing && decide (f.pat.fin=0)) || decide (f.pat.fin=2)
 | _=>false
abbrev tt.isCom:tt→Bool
 | .com _=>true
 | _=>false
abbrev tt.stamp:tt→Int
 | .com m=>if m.writing=true then IntKind.wrap .u64 (m.now+1) else 0
 | _=>0
structure bq where
 me:Int
 s:eO
 run:Option fm
 blocks:List Int
 given:Nat
 v:fT
 rd:List fS
 state:Int
 inn:tt
 begun:Bool
 beg:Int
 stamp:Int
 fin:Int
 by_:Int
 err:Int
 blocking:Bool
def dj (s:eO):eO:=⟨held s.words 32 256,held s.stripes 1 16,held s.wide 1 16,held s.threads 1 4,(fD ⟨s.words,s.stripes,s.wide,s.threads,s.start⟩).start,held s.spins 0 4,held s.writes 0 96,held s.fuel 0 400⟩
theorem Aq (s:eO):dj (dj s)=dj s:=by
 unfold dj fD
 simp only [fL (show (32:Int)≤256 by decide),fL (show (1:Int)≤16 by decide),fL (show (1:Int)≤4 by decide),fL (show (0:Int)≤4 by decide),fL (show (0:Int)≤96 by decide),fL (show (0:Int)≤400 by decide)]
 congr 1
 split <;> simp_all
abbrev qn (me:Int)(s:eO):bq :=
 ⟨me,dj s,none,[],0,⟨(dj s).words.toNat,[],⟨(dj s).writes,⟨[],[]⟩,[]⟩,0⟩,[],0,.none,false,0,0,0,-1,0,false⟩
abbrev kN (me:Int)(s:eO)(p:List bu):bq:={ qn me s with run:=some (Bf p (dj s).fuel) }
abbrev iz (me:Int)(s:eO)(bs:List Int):bq:={ qn me s with blocks:=bs }
abbrev bq.wr (x:bq):Bool:=!decide (x.state=8) && x.inn.wr
abbrev bq.done (x:bq):Bool:=decide ((if x.state=8 then x.fin else 0)=2) || x.wr
abbrev bq.freed (x:bq):List Int:=if x.done then (match x.run with | none=>x.blocks | some _=>x.v.l.frees) else []
abbrev bq.items (x:bq):List Int:=match x.run with | none=>[] | some r=>r.items
def vA (x:bq)(s:ByteArray):Prop:=x.done=true→∀r,x.run=some r→S3 r.items s
def RH (x:bq):ByteArray:=match x.run with | none=>⟨#[]⟩ | some r=>Hs r.items
theorem Mh {x:bq}:vA x (RH x):=fun _ r hr _ _=>by unfold RH;rw [hr]
abbrev hC (x:bq)(e er b:Int):bq:={ x with fin:=e,err:=er,by_:=b,state:=7 }
abbrev zE (x:bq)(c:Int):bq:={ x with inn:=.fetch (JX x.me c (fc c x.s.stripes x.s.wide) x.s.spins x.stamp),state:=3 }
abbrev sY (x:bq)(st:Int):bq:={ x with inn:=.ext (PI x.me x.s.spins x.rd),state:=st }
def jt:List Int→Nat→fT→Nat×fT×Int×Int
 | [],g,s=>(g,s,2,0)
 | b::l,g,s=>if (pG s b).2=0 then jt l (g+1) (pG s b).1 else if (pG s b).2=11 then (g,(pG s b).1,1,0) else (g,(pG s b).1,4,(pG s b).2)
def jE (x:bq):bq×Int×Int:=match x.run with
 | some r=>({ x with run:=some (jp 500 r x.v).1,v:=(jp 500 r x.v).2.1 },(jp 500 r x.v).2.2,(jp 500 r x.v).1.err)
 | none=>({ x with given:=(jt (x.blocks.drop x.given) x.given x.v).1,v:=(jt (x.blocks.drop x.given) x.given x.v).2.1 },(jt (x.blocks.drop x.given) x.given x.v).2.2.1,(jt (x.blocks.drop x.given) x.given x.v).2.2.2)
def FC (q:bq×Int×Int):bq :=
 if q.2.1=1 then zE q.1 q.1.v.need
 else if q.2.1=3 then sY { q.1 with blocking:=true } 5
 else if q.2.1=4 then hC q.1 4 q.2.2 (-1)
 else if q.1.v.l.cells=[] then hC q.1 2 0 (-1)
 else { q.1 with inn:=.com (nv q.1.me q.1.s.spins q.1.stamp q.1.rd q.1.v.l.cells (fK (de q.1.v.l.cells q.1.s.stripes q.1.s.wide) 16)),state:=6 }
def pS (x:bq):bq:=FC (jE x)
structure EM (x:bq):Prop where
 run:∀r,x.run=some r→xD 500 r x.v
 blocks:x.blocks.length≤1000000∧x.given≤x.blocks.length
 com:x.inn.isCom=false
 rd:x.rd.length≤1000
 cells:(jE x).1.v.l.cells.length≤1000
abbrev kK (x:bq)(f:fQ):bq:={ x with rd:=nS 16 x.rd ⟨f.stripe,f.lock.version⟩ }
abbrev rr (x:bq)(f:fQ):bq:={ kK x f with v:=(yK x.v x.v.need f.word).1 }
def iQ (x:bq)(f:fQ):bq :=
 if f.pat.fin=6 then sY x 4
 else if ny 16 x.rd ⟨f.stripe,f.lock.version⟩=0 then pS (rr x f)
 else if ny 16 x.rd ⟨f.stripe,f.lock.version⟩=14 then hC (kK x f) 5 0 (-1)
 else hC (kK x f) 4 (ny 16 x.rd ⟨f.stripe,f.lock.version⟩) (-1)
structure Kl (x:bq)(f:fQ):Prop where
 fin:f.pat.fin=6∨f.pat.fin=2
 rd:x.rd.length≤1000
 known:x.v.k.length≤1000
 work:f.pat.fin=2→ny 16 x.rd ⟨f.stripe,f.lock.version⟩=0→EM (rr x f)
abbrev om (x:bq):bq:=match x.inn with
 | .none=>x
 | .fetch f=>iQ x f
 | .ext e=>if x.state=4 then zE { x with stamp:=e.stamp } x.v.need else hC { x with stamp:=e.stamp } 3 0 (-1)
 | .com m=>hC x m.pat.fin m.pat.err (-1)
abbrev jL (x:bq):bq:=if x.wr=true then { x with stamp:=x.inn.stamp } else x
abbrev fX (x:bq):bq:=jL (if x.inn.fin=0 then x else if x.inn.fin=5 then hC x 5 0 x.inn.by_ else om x)
abbrev bm (x:bq)(a:fG):bq :=
 if x.state=8 then x
 else if x.state=0 then { x with state:=1 }
 else if x.state=1 then { x with begun:=true,beg:=a.word,stamp:=a.word,state:=2 }
 else if x.state=2 then pS x
 else if x.state=7 then { x with state:=8 }
 else fX { x with inn:=x.inn.tell a }
abbrev cn (x:bq):rq×Bool :=
 if x.state=0 then (⟨9,x.me,0,1,ah,ah⟩,true)
 else if x.state=1 then (⟨6,0,0,0,ah,ah⟩,true)
 else if x.state=2 then (⟨9,x.me,0,IntKind.wrap .u64 (x.stamp+1),ah,ah⟩,true)
 else if x.state=7 then (⟨9,x.me,0,0,ah,ah⟩,true)
 else if x.state=8 then (zx,false)
 else x.inn.next
structure Li (x:bq):Prop where
 ok:x.inn.ok
 fetch:∀f,x.inn=.fetch f→x.state=3∧(f.pat.fin=0∨f.pat.fin=5∨Kl x f)
 ext:∀e,x.inn=.ext e→(x.state=4∨x.state=5)∧(e.pat.fin=0∨e.pat.fin=5∨e.pat.fin=2)
 com:∀m,x.inn=.com m→x.state=6
structure m9 (x:bq)(a:fG):Prop where
 err:a.err=0
 work:x.state=2→EM x
 inn:x.state≠0→x.state≠1→x.state≠2→x.state≠7→x.state≠8→x.inn.ok∧Li { x with inn:=x.inn.tell a }
structure Ta where
 stamp:Int
 done:Bool
 cells:List au
 born:Int
 ended:Int
 reads:List au
 beg:Int
structure co where
 me:Int
 s:eO
 jobs:List (List bu)
 job:Int
 state:Int
 sweep:Bool
 rests:List oX
 tries:Int
 conf:Int
 now:Option bq
 born:Int
 alarm:Bool
 past:List Ta
 res:List Lz
 limbo:List oX
 slots:List Int
 by_:Int
 since:Int
 yld:Bool
 pauses:Int
abbrev gd (x:bq)(born ended:Int):Ta:=⟨x.stamp,x.done,if x.done then x.v.l.cells else [],born,ended,x.v.k,x.beg⟩
def gh (x:co):co:=match x.jobs[x.job.toNat]? with
 | some p=>{ x with born:=0,alarm:=false,now:=some (if x.sweep=true then iz x.me x.s (x.rests.map (·.place)) else kN x.me x.s p),state:=1 }
 | none=>{ x with born:=0,alarm:=false,now:=none,state:=6 }
structure iM (x:co):Prop where
 lo:0≤x.job
 hi:x.job≤x.jobs.length
 progs:∀p∈x.jobs,p.length≤1000
 rests:x.rests.length≤100000
def lW:Nat→Int
 | 0=>1
 | n+1=>if 8<2*lW n then 8 else 2*lW n
theorem K1:∀n:Nat,1≤lW n∧lW n≤8
 | 0=>by simp [lW]
 | n+1=>by have:=K1 n;unfold lW;split <;> omega
def vX (c:Int):Int:=if 8<c then 8 else c
abbrev pU (conf draw:Int):Int:=draw.tmod (lW (vX conf).toNat+1)
abbrev oK (x:co)(draw:Int):co:=if pU x.conf draw=0 then gh { x with pauses:=0,state:=3 } else { x with pauses:=pU x.conf draw,state:=3 }
abbrev ik (x:co):co:=if x.state=3 then (if x.pauses=1 then gh { x with pauses:=0 } else { x with pauses:=x.pauses-1 }) else x
abbrev io (x:co):co:=gh { x with job:=x.job+1,sweep:=false,rests:=[],tries:=0,conf:=0 }
abbrev ti (x:co)(a:fG)(draw:Int):co:=if a.err=0∧a.word≠0∧(x.yld=false∨a.word=x.since) then { x with yld:=true,since:=a.word } else oK x draw
abbrev fW (x:co):List Int:=if (x.slots.length:Int)=x.me then x.slots++[0] else x.slots
def rC (x:co):co :=
 if ((fW x).length:Int)<x.s.threads then { x with slots:=fW x }
 else if x.limbo.filter (fun r=>ff (fW x) r.stamp)=[] then io { x with slots:=fW x,limbo:=x.limbo.filter fun r=>!ff (fW x) r.stamp }
 else gh { x with slots:=fW x,limbo:=x.limbo.filter (fun r=>!ff (fW x) r.stamp),sweep:=true,rests:=x.limbo.filter (fun r=>ff (fW x) r.stamp),tries:=0,conf:=0 }
abbrev AH (x:co):co:=if x.limbo=[] then io x else rC { x with state:=5,slots:=[] }
abbrev xL (x:co)(since:Int):co:=rC { x with slots:=x.slots++[since] }
abbrev Bd (x:co)(e:Int):co:=if e=4 then io { x with limbo:=x.limbo++x.rests } else io x
def lD (x:co)(a:bq)(draw pick:Int)(sl:ByteArray):co :=
 if a.fin=5 then (if 0≤a.by_∧a.by_<x.s.threads then { x with past:=x.past++[gd a x.born pick],tries:=IntKind.wrap .i64 (x.tries+1),conf:=IntKind.wrap .i64 (x.conf+1),state:=2,by_:=a.by_,yld:=false } else oK { x with past:=x.past++[gd a x.born pick],tries:=IntKind.wrap .i64 (x.tries+1),conf:=IntKind.wrap .i64 (x.conf+1) } draw)
 else if a.fin=3 then (if x.alarm=true then gh { x with past:=x.past++[gd a x.born pick],tries:=IntKind.wrap .i64 (x.tries+1) } else { x with past:=x.past++[gd a x.born pick],tries:=IntKind.wrap .i64 (x.tries+1),state:=4 })
 else if x.sweep=true then Bd { x with past:=x.past++[gd a x.born pick],tries:=IntKind.wrap .i64 (x.tries+1) } a.fin
 else AH { x with past:=x.past++[gd a x.born pick],tries:=IntKind.wrap .i64 (x.tries+1),res:=x.res++[⟨a.fin,a.err,sl,a.stamp⟩],limbo:=x.limbo++a.freed.map fun n=>⟨n,a.stamp⟩ }
abbrev bj (x:co):rq×Bool :=
 if x.state=1 then (match x.now with | some a=>cn a | none=>(zx,false))
 else if x.state=2 then (⟨8,x.by_,0,0,ah,ah⟩,true)
 else if x.state=5 then (⟨8,x.slots.length,0,0,ah,ah⟩,true)
 else (zx,false)
abbrev qz (x:co)(a a':bq)(draw pick:Int)(sl:ByteArray):co :=
 if a'.state=8∧a'.fin≠0 then lD { x with now:=some a',born:=if a'.begun && !a.begun then pick else x.born } a' draw pick sl else { x with now:=some a',born:=if a'.begun && !a.begun then pick else x.born }
abbrev thrTell (x:co)(a:fG)(draw pick:Int)(sl:ByteArray):co :=
 if x.state=1 then (match x.now with | some at_=>qz x at_ (bm at_ a) draw pick sl | none=>x)
 else if x.state=2 then ti x a draw
 else if x.state=5 then xL x (if a.err=0 then a.word else 0) else x
structure Ce (a:bq):Prop where
 gone:a.state=8
 fin:a.fin≠0
 known:a.v.k.length≤1000
 cells:a.v.l.cells.length≤1000
 frees:a.done=true→a.v.l.frees.length≤1000
 blocks:a.blocks.length≤100000
 items:a.done=true→AG a.items
structure FX (x:co)(a:fG):Prop where
 jobs:iM x
 few:x.jobs.length≤1000000
 past:x.past.length≤1000000
 res:x.res.length≤1000000
 limbo:x.limbo.length+x.rests.length≤80000
 slots:x.state=5→x.slots.length≤4∧0≤x.me∧x.s.threads≤4
 run:x.state=1→x.job<x.jobs.length∧x.s.threads≤4∧0≤x.me∧∃at_,x.now=some at_∧m9 at_ a∧((bm at_ a).state=8→Ce (bm at_ a)∧(x.sweep=false→(bm at_ a).freed.length≤1000))
 look:x.state=5→x.job<x.jobs.length
abbrev G4 (l:List fS)(s ver:Int):Bool:=l.any fun z=>decide (z.stripe=s) && !decide (z.version=ver)
def il (x:co)(s ver:Int):co:=match x.now with
 | none=>x
 | some a=>if G4 a.rd s ver=true then (if x.state=4 then gh x else if x.state=1∧(!decide (a.state=8) && a.blocking)=true then { x with alarm:=true } else x) else x
abbrev mj (me:Int)(s:eO)(jobs:List (List bu)):co:=io ⟨me,dj s,jobs,-1,0,false,[],0,0,none,0,false,[],[],[],[],0,0,false,0⟩
structure kw where
 s:eO
 mem:gn
 thr:List co
 picks:Int
def jc (i:Nat)(s ver:Int)(k:Nat)(l:List co):List co:=l.mapIdx fun j u=>if j<k∧j≠i then il u s ver else u
def l8 (x:kw)(i:Nat)(t:co)(draw:Int)(sl:ByteArray):kw:={ x with mem:=(az x.mem (bj t).1).1,thr:=if (bj t).1.kind=5 then jc i (bj t).1.place (bj t).1.lock.version x.thr.length (x.thr.set i (thrTell t (az x.mem (bj t).1).2 draw (x.picks+1) sl)) else x.thr.set i (thrTell t (az x.mem (bj t).1).2 draw (x.picks+1) sl),picks:=x.picks+1 }
abbrev rm (x:kw)(i:Nat)(t:co):kw:={ x with thr:=x.thr.set i (ik t),picks:=x.picks+1 }
structure Py (x:kw)(i:Nat)(t:co):Prop where
 at_:x.thr[i]? = some t
 few:x.thr.length≤4
 picks:0≤x.picks∧x.picks<1000000000
 run:t.state=1→∃a,t.now=some a∧(a.state≠0→a.state≠1→a.state≠2→a.state≠7→a.state≠8→a.inn.ok)
 slots:t.state=5→t.slots.length≤4
 jobs:iM t
 pauses:(bj t).2=false→t.state=3→1≤t.pauses∧t.pauses≤100
 hear:(bj t).2=true→FX t (az x.mem (bj t).1).2
 others:∀k u,x.thr[k]? = some u→k≠i→iM u∧∀a,u.now=some a→a.rd.length≤1000
abbrev kH (m:gn)(k:Nat):gn:=if k≤5 then m else (az m ⟨2,5,0,14,ah,ah⟩).1
abbrev dp (s:eO)(rows:Nat):eO:=dj { s with threads:=rows }
abbrev eO.shape (s:eO):jH:=⟨s.words,s.stripes,s.wide,s.threads,s.start⟩
def jg (s:eO):Nat→List (List (List bu))→List co
 | _,[]=>[]
 | i,r::l=>mj i s r::jg s (i+1) l
abbrev eH (s:eO)(rows:List (List (List bu))):kw :=
 ⟨dp s rows.length,kH (tO (dp s rows.length).shape) 6,jg (dp s rows.length) 0 rows,0⟩
abbrev ev (t:co):List Ta:=t.past++(if t.state=1 then (match t.now with | some a=>if a.begun=true then [gd a t.born 0] else [] | none=>[]) else [])
abbrev ww (x:kw):List Ta:=x.thr.flatMap ev
end Go.Proofs.YtoealglbimbbmaaGreatDoor.S
namespace Go.Proofs.YtoealglbimbbmaaGreatDoor.S
open Go Go.Proofs
set_option linter.unusedVariables false
set_option linter.unusedSimpArgs false
def Cw (cs:List au):Prop:=∀c∈cs,jQ c.word
def LO (s:kf):Prop:=∀r∈s.r::s.up,Cw r.c
structure Vg (s:fT):Prop where
 k:Cw s.k
 l:LO s.l
section
variable {cs l:List au}{a x n b c:Int}{s:fT}{t:kf}
theorem bw {α:Type}{c:Prop} [Decidable c]{a b:α}{P:α→Prop}(h1:c→P a)(h2:¬c→P b):P (if c then a else b):=by
 by_cases h:c
 ·rw [if_pos h];exact h1 h
 ·rw [if_neg h];exact h2 h
theorem At:jQ (wU n):=by
 unfold jQ wU IntKind.wrap
 simp [IntKind.signed,IntKind.bits,IntKind.min,IntKind.max]
 omega
theorem Cw.nil:Cw []:=fun _ h=>by cases h
theorem Cw.cons (h1:jQ x)(h2:Cw cs):Cw (⟨a,x⟩::cs):=fun c hc=>(List.mem_cons.1 hc).elim (fun e=>by rw [e];exact h1) (h2 c)
theorem Cw.put (hx:jQ x):∀{cs:List au},Cw cs→Cw (i4 cs a x)
 | [],_=>Cw.cons hx .nil
 | c::cs,h=>by
  unfold i4
  split
  ·exact .cons hx fun d hd=>h d (List.mem_cons_of_mem _ hd)
  ·exact fun d hd=>(List.mem_cons.1 hd).elim (fun e=>by rw [e];exact h c List.mem_cons_self) (Cw.put hx (cs:=cs) (fun e he=>h e (List.mem_cons_of_mem _ he)) d)
theorem Cw.puts:∀{l cs:List au},Cw cs→Cw l→Cw (iD cs l)
 | [],_,h,_=>h
 | c::l,cs,h,hl=>Cw.puts (l:=l) (cs:=i4 cs c.place c.word) (Cw.put (hl c List.mem_cons_self) h) fun d hd=>hl d (List.mem_cons_of_mem _ hd)
theorem Cw.look:∀{cs:List au},Cw cs→fk cs a=some x→jQ x
 | [],_,e=>by cases e
 | c::cs,h,e=>by
  unfold fk at e
  split at e
  ·cases e;exact h c List.mem_cons_self
  ·exact Cw.look (cs:=cs) (fun d hd=>h d (List.mem_cons_of_mem _ hd)) e
theorem Np:∀{l:List Lv},(∀r∈l,Cw r.c)→qE l a=some x→jQ x
 | [],_,e=>by cases e
 | r::l,h,e=>by
  unfold qE at e
  split at e
  ·rename_i h1;cases e;exact(h r List.mem_cons_self).look h1
  ·exact Np (l:=l) (fun d hd=>h d (List.mem_cons_of_mem _ hd)) e
theorem Vg.read (h:Vg s):Vg (cr s a).1∧jQ (cr s a).2.1:=by
 unfold cr
 split
 ·split
  ·rename_i h1;exact⟨h,Np h.l h1⟩
  ·split
   ·rename_i h1;exact⟨h,h.k.look h1⟩
   ·exact⟨⟨h.k,h.l⟩,kU⟩
 ·exact⟨h,kU⟩
theorem LO.put (h:LO t)(hx:jQ x):LO (t.put a x):=fun r hr=>by
 rcases List.mem_cons.1 hr with e | e
 ·rw [e];exact(h t.r List.mem_cons_self).put hx
 ·exact h r (List.mem_cons_of_mem _ e)
theorem LO.puts:∀{l:List au}{t:kf},LO t→Cw l→LO (jm t l).1
 | [],_,h,_=>h
 | c::l,t,h,hl=>by
  unfold jm
  split
  ·exact LO.puts (h.put (hl c List.mem_cons_self)) fun d hd=>hl d (List.mem_cons_of_mem _ hd)
  ·exact h
theorem Vg.take (h:Vg s)(hl:Cw l):Vg (gT s l).1:=by
 unfold gT
 split
 ·refine⟨h.k,?_⟩
  show LO (pK s.l l).1
  unfold pK
  split
  ·exact h.l.puts hl
  ·exact h.l
 ·exact h
theorem Vg.write (h:Vg s)(hx:jQ x):Vg (rX s a x).1:=by
 unfold rX
 split
 ·refine⟨h.k,?_⟩
  show LO (QA s.l a x).1
  unfold QA
  simp only
  split
  ·exact h.l.put hx
  ·exact h.l
 ·exact h
theorem Vg.know (h:Vg s)(hx:jQ x):Vg (yK s a x).1:=by
 unfold yK
 split
 ·split
  ·exact h
  ·exact⟨fun c hc=>(List.mem_append.1 hc).elim (h.k c) fun e=>by rw [List.mem_singleton.1 e];exact hx,h.l⟩
 ·exact h
theorem Vg.open_ (h:Vg s):Vg (s.log (mg s.l).1):=by
 refine⟨h.k,?_⟩
 show LO (mg s.l).1
 unfold mg
 split
 ·exact h.l
 ·exact fun r hr=>(List.mem_cons.1 hr).elim (fun e=>by rw [e];exact .nil) (h.l r)
theorem Vg.drop (h:Vg s):Vg (s.log (fZ s.l).1):=by
 refine⟨h.k,?_⟩
 show LO (fZ s.l).1
 unfold fZ
 split
 ·exact h.l
 ·rename_i q up e
  exact fun r hr=>h.l r (List.mem_cons_of_mem _ (by rw [e];exact hr))
theorem Vg.keep (h:Vg s):Vg (s.log (mG s.l).1):=by
 refine⟨h.k,?_⟩
 show LO (mG s.l).1
 unfold mG
 split
 ·exact h.l
 ·rename_i q up e
  have h1:=h.l
  unfold LO at h1
  rw [e] at h1
  intro r hr
  rcases List.mem_cons.1 hr with g | g
  ·rw [g];exact Cw.puts (h1 q (by simp)) (h1 s.l.r (by simp))
  ·exact h1 r (by simp [g])
theorem Vg.free (h:Vg s):Vg (s.log (s.l.free n)):=⟨h.k,fun r hr=>by
 rcases List.mem_cons.1 hr with g | g
 ·rw [g];exact h.l s.l.r List.mem_cons_self
 ·exact h.l r (List.mem_cons_of_mem _ g)⟩
theorem Vg.again (h:Vg s):Vg (rQ s c b).1:=by
 unfold rQ
 have h1:=h.read (a:=iE b)
 have h2:=h1.1.take (l:=[⟨iw c,(cr s (iE b)).2.1⟩,⟨iE (iE b-1),wU (iE (c+8))⟩]) (.cons h1.2 (.cons At .nil))
 split
 ·exact h
 ·split
  ·split <;> exact h2
  ·exact h1.1
theorem Vg.grown (h:Vg s):Vg (sa s c).1:=by
 unfold sa
 have h1:=h.read (a:=5)
 have h2:=h1.1.take (l:=vV (cr s 5).2.1 c) (.cons At (.cons At .nil))
 split
 ·split
  ·exact h1.1
  ·split <;> exact h2
 ·exact h1.1
theorem Vg.alloc (h:Vg s):Vg (jD s n).1:=by
 unfold jD
 have h1:=h.read (a:=iw (kS n))
 split
 ·exact h
 ·split
  ·split
   ·exact h1.1.grown
   ·exact h1.1.again
  ·exact h1.1
theorem Vg.asked (h:Vg s):Vg (iT s b).1:=by
 unfold iT
 have h1:=h.read (a:=iE (b-1))
 split
 ·exact h
 ·split
  ·split <;> exact h1.1
  ·exact h1.1
theorem Vg.freed (h:Vg s):Vg (zj s b).1:=by
 unfold zj DR
 have h1:=h.asked (b:=b)
 generalize iT s b=q at h1 ⊢
 have h2:=h1.take (l:=[⟨iE (b-1),wU q.2.1⟩]) (.cons At .nil)
 split
 ·split
  ·split
   ·exact h2.free
   ·exact h2
  ·exact h1
 ·exact h1
theorem Vg.give (h:Vg s):Vg (pG s b).1:=by
 unfold pG D0
 have h1:=h.asked (b:=b)
 generalize iT s b=q at h1 ⊢
 have h2:=h1.read (a:=iw q.2.1)
 split
 ·split
  ·exact h1
  ·split
   ·exact h2.1.take (.cons h2.2 (.cons At .nil))
   ·exact h2.1
 ·exact h1
theorem Vg.gives:∀{l:List Int}{g:Nat}{s:fT},Vg s→Vg (jt l g s).2.1
 | [],_,_,h=>h
 | b::l,g,s,h=>by
  unfold jt
  split
  ·exact Vg.gives h.give
  ·split <;> exact h.give
end
def Ru (r:yv):Prop:=∀k,jQ (r.get k)
structure Rg (x:fm):Prop where
 regs:Ru x.r
 ops:∀q∈x.op,Ru q.regs
 items:∀n∈x.items,jQ n
 prog:∀i∈x.prog,jQ i.n
section
variable {x:fm}{s:fT}{k:Nat}{y:Int}{i:bu}
theorem Ru.set {r:yv}(h:Ru r)(hy:jQ y):Ru (r.set k y):=fun j=>by
 have h0:=h 0;have h1:=h 1;have h2:=h 2;have h3:=h 3;have h4:=h 4;have h5:=h 5;have h6:=h 6;have h7:=h 7
 unfold yv.set
 split <;> (unfold yv.get;split <;> first | exact hy | assumption)
theorem Rg.set (h:Rg x)(hy:jQ y):Rg (re x k y):=⟨h.regs.set hy,h.ops,h.items,h.prog⟩
theorem Rg.begin (h:Rg x)(hs:Vg s){o a:Int}:Rg (iY x s o a).1∧Vg (iY x s o a).2.1:=by
 unfold iY
 split
 ·exact⟨⟨h.regs,fun q hq=>(List.mem_cons.1 hq).elim (fun e=>by rw [e];exact h.regs) (h.ops q),h.items,h.prog⟩,hs.open_⟩
 ·exact⟨h,hs.open_⟩
theorem Rg.retry:∀{ps:List jX}{s:fT},Rg x→Vg s→(∀q∈ps,Ru q.regs)→Rg (gO x s ps).1∧Vg (gO x s ps).2.1
 | [],s,h,hs,_=>⟨⟨h.regs,by simp [gO],h.items,h.prog⟩,hs⟩
 | q::ps,s,h,hs,hp=>by
  have hp2:∀p∈ps,Ru p.regs:=fun p hp2=>hp p (List.mem_cons_of_mem _ hp2)
  rw [vD]
  split
  ·split
   ·refine Rg.begin ?_ hs.drop
    exact⟨hp q List.mem_cons_self,hp2,fun n hn=>h.items n (List.mem_of_mem_take hn),h.prog⟩
   ·exact Rg.retry h hs.drop hp2
  ·exact⟨⟨h.regs,hp2,h.items,h.prog⟩,hs.drop⟩
theorem Ia (h:Rg x):∀q∈x.op.tail,Ru q.regs:=fun q hq=>h.ops q (List.mem_of_mem_tail hq)
theorem Rg.turn (h:Rg x)(hs:Vg s){o:Int}:Rg (Bq x s o).1∧Vg (Bq x s o).2.1:=by
 unfold Bq
 split
 ·exact h.begin hs
 ·split
  ·exact⟨⟨h.regs,Ia h,h.items,h.prog⟩,hs.keep⟩
  ·split
   ·exact⟨⟨h.regs,Ia h,h.items,h.prog⟩,hs.keep⟩
   ·split
    ·refine⟨⟨?_,Ia h,fun n hn=>h.items n (List.mem_of_mem_take hn),h.prog⟩,hs.drop⟩
     cases hop:x.op with
     | nil=>intro k;simp only [List.headD_nil];unfold yv.get;split <;> exact kU
     | cons q l=>exact h.ops q (by rw [hop];exact List.mem_cons_self)
    ·exact h.retry hs h.ops
theorem Rg.touch (h:Rg x)(hs:Vg s):Rg (tR x s i).1∧Vg (tR x s i).2.1:=by
 unfold tR
 split
 ·split
  ·exact⟨h,hs⟩
  ·have h1:=hs.read (a:=(gP (x.r.get (m8 i.b)) i.c).1)
   split
   ·exact⟨h.set h1.2,h1.1⟩
   ·exact⟨h,h1.1⟩
 ·split
  ·split
   ·exact⟨h,hs⟩
   ·exact⟨h,hs.write (h.regs _)⟩
  ·split
   ·split
    ·exact⟨h,hs⟩
    ·split
     ·exact⟨h.set At,hs.alloc⟩
     ·exact⟨h,hs.alloc⟩
   ·split
    ·exact⟨h,hs⟩
    ·exact⟨h,hs.freed⟩
abbrev RV (R:fm×fT×Int):Prop:=Rg R.1∧Vg R.2.1
theorem KQ {t:Bool}:jQ (CI t):=by cases t <;> exact⟨by decide,by decide⟩
theorem Rg.do_ (h:Rg x)(hs:Vg s)(hi:jQ i.n):Rg (QS x s i).1∧Vg (QS x s i).2.1:=by
 unfold QS
 refine bw (P:=RV) (fun _=>⟨h.set hi,hs⟩) fun _=>?_
 refine bw (P:=RV) (fun _=>⟨h.set (h.regs _),hs⟩) fun _=>?_
 refine bw (P:=RV) (fun _=>⟨h.set At,hs⟩) fun _=>?_
 refine bw (P:=RV) (fun _=>⟨h.set At,hs⟩) fun _=>?_
 refine bw (P:=RV) (fun _=>⟨h.set At,hs⟩) fun _=>?_
 refine bw (P:=RV) (fun _=>⟨h.set KQ,hs⟩) fun _=>?_
 refine bw (P:=RV) (fun _=>⟨h.set KQ,hs⟩) fun _=>?_
 refine bw (P:=RV) (fun _=>⟨⟨h.regs,h.ops,h.items,h.prog⟩,hs⟩) fun _=>?_
 refine bw (P:=RV) (fun _=>⟨bw (P:=Rg) (fun _=>⟨h.regs,h.ops,h.items,h.prog⟩) fun _=>h,hs⟩) fun _=>?_
 refine bw (P:=RV) (fun _=>bw (P:=RV) (fun _=>⟨⟨h.regs,h.ops,fun n hn=>(List.mem_append.1 hn).elim (h.items n) fun e=>by rw [List.mem_singleton.1 e];exact h.regs _,h.prog⟩,hs⟩) fun _=>⟨h,hs⟩) fun _=>?_
 refine bw (P:=RV) (fun _=>⟨h,hs⟩) fun _=>?_
 exact bw (P:=RV) (fun _=>h.touch hs) fun _=>h.turn hs
theorem Rg.step (h:Rg x)(hs:Vg s):Rg (gF x s).1∧Vg (gF x s).2.1:=by
 unfold gF
 refine Rg.do_ ⟨h.regs,h.ops,h.items,h.prog⟩ hs ?_
 show jQ (x.prog.getD x.pos.toNat ⟨0,0,0,0,0⟩).n
 rw [List.getD_eq_getElem?_getD]
 cases e:x.prog[x.pos.toNat]? with
 | none=>exact kU
 | some i=>exact h.prog i (List.mem_of_getElem? e)
theorem Rg.run:∀{n:Nat}{x:fm}{s:fT},Rg x→Vg s→Rg (jp n x s).1∧Vg (jp n x s).2.1
 | 0,_,_,h,hs=>⟨h,hs⟩
 | n+1,x,s,h,hs=>by
  have h1:=h.step hs
  have hf:∀{x:fm} {e:Int},Rg x→Rg (x.failed e):=fun h=>⟨h.regs,h.ops,h.items,h.prog⟩
  unfold jp
  split
  ·exact⟨h,hs⟩
  split
  ·exact⟨hf h,hs⟩
  split
  ·exact⟨⟨h.regs,h.ops,h.items,h.prog⟩,hs⟩
  split
  ·exact⟨hf h,hs⟩
  split
  ·exact Rg.run ⟨h1.1.regs,h1.1.ops,h1.1.items,h1.1.prog⟩ h1.2
  split
  ·exact h1
  ·exact⟨hf h1.1,h1.2⟩
end
def Tg:tt→Prop
 | .fetch f=>jQ f.word
 | .com m=>Cw m.cells
 | _=>True
structure jn (a:bq):Prop where
 run:∀r,a.run=some r→Rg r
 v:Vg a.v
 inn:Tg a.inn
section
variable {x:bq}{m:gn}{o:rq}{c:eK}{f:fQ}{an:fG}
theorem Eg:(iy c).cells=c.cells:=by unfold iy;split <;> rfl
theorem xX {e er b:Int}:(gw c e er b).cells=c.cells:=by unfold gw;rw [Eg]
theorem G8 {l:cw}:(jl c l).cells=c.cells:=by unfold jl;split;rfl;rw [xX]
theorem HL:(jj c).cells=c.cells:=by unfold jj;split <;> rfl
theorem Fd:(jA c).cells=c.cells:=by unfold jA;split;rw [HL];rfl
theorem FO:(pb c).cells=c.cells:=by unfold pb;rw [Fd]
theorem K0:∀{n:Nat}{c:eK},(kR n c).cells=c.cells
 | 0,_=>FO
 | n+1,c=>by
  unfold kR
  split
  ·rfl
  ·split
   ·rw [K0]
   ·exact xX
theorem Fh:(oZ c).cells=c.cells:=by unfold oZ;rw [K0]
theorem JQ {l:cw}:(lw c l).cells=c.cells:=by
 unfold lw
 split
 ·exact G8
 ·split
  ·rw [Fh]
  ·exact xX
theorem O4:(p8 c an).cells=c.cells:=by
 unfold p8
 split
 ·split
  ·exact G8
  ·rfl
 ·split <;> rfl
abbrev T4 (c z:eK):Prop:=z.cells=c.cells
theorem Lb:(lY c an).cells=c.cells:=by
 unfold lY
 refine bw (P:=T4 c) (fun _=>bw (P:=T4 c) (fun _=>xX) fun _=>rfl) fun _=>bw (P:=T4 c) (fun _=>rfl) fun _=>bw (P:=T4 c) (fun _=>FO) fun _=>Fh
theorem Of:(cy c an).cells=c.cells:=by
 unfold cy
 refine bw (P:=T4 c) (fun _=>?_) fun _=>rfl
 split
 ·exact O4
 split
 ·exact Lb
 split
 ·exact JQ
 split
 ·exact Fd
 split
 ·exact HL
 ·exact Eg
theorem Tz (hm:∀n∈m.w,jQ n){k:Nat}:jQ (m.w.getD k 0):=by
 rw [List.getD_eq_getElem?_getD]
 cases e:m.w[k]? with
 | none=>exact kU
 | some n=>exact hm n (List.mem_of_getElem? e)
abbrev KO (z:gn×fG):Prop:=∀n∈z.1.w,jQ n
theorem Sy (hm:∀n∈m.w,jQ n)(ho:o.kind=2→jQ o.word):∀n∈(az m o).1.w,jQ n:=by
 have h1:KO (bx m o):=by
  unfold bx
  refine bw (P:=KO) (fun _=>bw (P:=KO) (fun _=>hm) fun _=>hm) fun _=>?_
  refine bw (P:=KO) (fun h2=>bw (P:=KO) (fun _ n hn=>(List.mem_or_eq_of_mem_set hn).elim (hm n) fun e=>by rw [e];exact ho h2) fun _=>hm) fun _=>?_
  refine bw (P:=KO) (fun _=>hm) fun _=>bw (P:=KO) (fun _=>hm) fun _=>bw (P:=KO) (fun _=>hm) fun _=>bw (P:=KO) (fun _=>hm) fun _=>?_
  refine bw (P:=KO) (fun _=>bw (P:=KO) (fun _=>hm) fun _=>bw (P:=KO) (fun _=>hm) fun _=>bw (P:=KO) (fun _=>hm) fun _=>hm) fun _=>?_
  exact bw (P:=KO) (fun _=>bw (P:=KO) (fun _=>hm) fun _=>hm) fun _=>bw (P:=KO) (fun _=>bw (P:=KO) (fun _=>hm) fun _=>hm) fun _=>hm
 unfold az
 split <;> exact h1
theorem QC (hm:∀n∈m.w,jQ n)(ho:o.kind=1):jQ (az m o).2.word:=by
 have h1:jQ (bx m o).2.word:=by
  unfold bx
  rw [if_pos ho]
  split
  ·exact Tz hm
  ·exact kU
 unfold az
 split <;> exact h1
theorem JT {p:n8}{e:Int}(h:(p.stopped e).fin=0):p.fin=0:=by
 unfold n8.stopped at h
 split at h
 ·rename_i g;exact g.1
 ·exact h
theorem Q8 {l:cw}:(kM f l).word=f.word:=by
 unfold kM
 exact bw (P:=fun z:fQ=>z.word=f.word) (fun _=>bw (P:=fun z:fQ=>z.word=f.word) (fun _=>rfl) fun _=>rfl) fun _=>bw (P:=fun z:fQ=>z.word=f.word) (fun _=>rfl) fun _=>rfl
theorem Tg.tell (hm:∀n∈m.w,jQ n):∀{i:tt},Tg i→Tg (i.tell (az m i.next.1).2)
 | .none,_=>trivial
 | .ext _,_=>trivial
 | .com c,h=>by
  show Cw (cy c _).cells
  rw [Of];exact h
 | .fetch f,h=>by
  show jQ (gR f (az m (gB f).1).2).word
  unfold gR
  split
  ·rename_i h0
   have hf:=JT h0
   split
   ·rename_i h1
    refine QC hm ?_
    unfold gB
    rw [if_pos hf,if_pos h1]
   ·split
    ·exact h
    ·rw [Q8];exact h
  ·exact h
theorem Tg.next:∀{i:tt},Tg i→i.next.1.kind=2→jQ i.next.1.word
 | .none,_,g=>by cases g
 | .ext e,_,g=>by
  have g:(mm e).1.kind=2:=g
  unfold mm at g
  split at g
  ·split at g <;> cases g
  ·cases g
 | .fetch f,_,g=>by
  have g:(gB f).1.kind=2:=g
  unfold gB at g
  split at g
  ·split at g <;> cases g
  ·cases g
 | .com c,h,g=>by
  have g:(bi c).1.kind=2:=g
  show jQ (bi c).1.word
  unfold bi at g ⊢
  split at g
  ·rename_i h0
   rw [if_pos h0]
   have hc:jQ (c.cells.getD c.pos ⟨0,0⟩).word:=by
    rw [List.getD_eq_getElem?_getD]
    cases e:c.cells[c.pos]? with
    | none=>exact kU
    | some z=>exact h z (List.mem_of_getElem? e)
   simp only at g ⊢
   by_cases c0:c.state=0
   ·rw [if_pos c0] at g;cases g
   by_cases c1:c.state=1
   ·rw [if_neg c0,if_pos c1] at g;cases g
   by_cases c2:c.state=2
   ·rw [if_neg c0,if_neg c1,if_pos c2] at g;cases g
   by_cases c3:c.state=3
   ·rw [if_neg c0,if_neg c1,if_neg c2,if_pos c3] at g;cases g
   by_cases c4:c.state=4
   ·rw [if_neg c0,if_neg c1,if_neg c2,if_neg c3,if_pos c4] at g;cases g
   by_cases c5:c.state=5
   ·rw [if_neg c0,if_neg c1,if_neg c2,if_neg c3,if_neg c4,if_pos c5];exact hc
   ·rw [if_neg c0,if_neg c1,if_neg c2,if_neg c3,if_neg c4,if_neg c5] at g
    split at g <;> cases g
  ·cases g
theorem Qg {s:kf}(h:LO s):Cw s.cells:=by
 unfold kf.cells
 have key:∀{l:List Lv} {cs:List au},(∀r∈l,Cw r.c)→Cw cs→Cw (l.foldl (fun out q=>iD q.c out) cs):=fun {l}=>by
  induction l with
  | nil=>intro cs _ h;exact h
  | cons q l ih=>intro cs h1 h2;exact ih (fun r hr=>h1 r (List.mem_cons_of_mem _ hr)) (Cw.puts (h1 q List.mem_cons_self) h2)
 exact key (fun r hr=>h r (List.mem_cons_of_mem _ hr)) (h s.r List.mem_cons_self)
theorem jn.out (h:jn x){e er b:Int}:jn (hC x e er b):=⟨h.run,h.v,h.inn⟩
theorem jn.ask (h:jn x){c:Int}:jn (zE x c):=⟨h.run,h.v,kU⟩
theorem jn.later (h:jn x){s:Int}:jn (sY x s):=⟨h.run,h.v,trivial⟩
theorem jn.did {q:bq×Int×Int}(h:jn q.1):jn (FC q):=by
 unfold FC
 refine bw (fun _=>h.ask) fun _=>bw (fun _=>?_) fun _=>bw (fun _=>h.out) fun _=>bw (fun _=>h.out) fun _=>?_
 ·exact⟨h.run,h.v,trivial⟩
 ·exact⟨h.run,h.v,Qg h.v.l⟩
theorem jn.work (h:jn x):jn (pS x):=by
 unfold pS
 refine jn.did ?_
 unfold jE
 cases e:x.run with
 | none=>exact⟨fun r g=>(by cases g),h.v.gives,h.inn⟩
 | some r =>
  have h1:=(h.run r e).run (n:=500) h.v
  exact⟨fun r g=>(by cases g;exact h1.1),h1.2,h.inn⟩
theorem jn.fetched (h:jn x)(hf:jQ f.word):jn (iQ x f):=by
 unfold iQ
 refine bw (fun _=>h.later) fun _=>bw (fun _=>jn.work ⟨h.run,h.v.know hf,h.inn⟩) fun _=>bw (fun _=>?_) fun _=>?_
 ·exact⟨h.run,h.v,h.inn⟩
 ·exact⟨h.run,h.v,h.inn⟩
theorem jn.ended (h:jn x):jn (om x):=by
 unfold om
 have hi:=h.inn
 cases e:x.inn with
 | none=>exact h
 | fetch f=>rw [e] at hi;exact h.fetched hi
 | ext m=>exact bw (fun _=>⟨h.run,h.v,kU⟩) fun _=>⟨h.run,h.v,trivial⟩
 | com m=>exact h.out
theorem jn.mark (h:jn x):jn (jL x):=by
 unfold jL
 exact bw (fun _=>⟨h.run,h.v,h.inn⟩) fun _=>h
theorem jn.tell (h:jn x)(hi:Tg (x.inn.tell an)):jn (bm x an):=by
 unfold bm
 refine bw (fun _=>h) fun _=>bw (fun _=>⟨h.run,h.v,h.inn⟩) fun _=>bw (fun _=>⟨h.run,h.v,h.inn⟩) fun _=>bw (fun _=>h.work) fun _=>bw (fun _=>⟨h.run,h.v,h.inn⟩) fun _=>?_
 unfold fX
 have h2:jn { x with inn:=x.inn.tell an }:=⟨h.run,h.v,hi⟩
 exact jn.mark (bw (fun _=>h2) fun _=>bw (fun _=>h2.out) fun _=>h2.ended)
theorem jn.items (h:jn x):∀n∈x.items,jQ n:=by
 unfold bq.items
 cases e:x.run with
 | none=>simp
 | some r=>exact(h.run r e).items
end
structure fR (t:co):Prop where
 jobs:∀p∈t.jobs,∀i∈p,jQ i.n
 now:∀a,t.now=some a→jn a
structure sr (x:kw):Prop where
 mem:∀n∈x.mem.w,jQ n
 thr:∀t∈x.thr,fR t
section
variable {x:co}{m:kw}{t u:co}{a:bq}{an:fG}{draw pick:Int}{sl:ByteArray}{i:Nat}
theorem MH {me:Int}{s:eO}:Vg (qn me s).v:=⟨.nil,fun r hr=>by
 rcases List.mem_cons.1 hr with e | e
 ·rw [e];exact .nil
 ·cases e⟩
theorem fR.again (h:fR x):fR (gh x):=by
 unfold gh
 cases e:x.jobs[x.job.toNat]? with
 | none=>exact⟨h.jobs,fun a g=>(by cases g)⟩
 | some p =>
  refine⟨h.jobs,fun a g=>?_⟩
  simp only [Option.some.injEq] at g
  subst g
  refine bw (fun _=>⟨fun r g=>(by cases g),MH (me:=x.me),trivial⟩) fun _=>⟨fun r g=>?_,MH (me:=x.me),trivial⟩
  cases g
  refine⟨fun k=>?_,by simp,by simp,h.jobs p (List.mem_of_getElem? e)⟩
  show jQ (yv.get ⟨0,0,0,0,0,0,0,0⟩ k)
  unfold yv.get
  split <;> exact kU
theorem fR.eqs (h:fR x)(h1:u.jobs=x.jobs)(h2:u.now=x.now):fR u:=⟨by rw [h1];exact h.jobs,by rw [h2];exact h.now⟩
theorem fR.pause (h:fR x):fR (oK x draw):=by
 unfold oK
 exact bw (fun _=>fR.again (h.eqs rfl rfl)) fun _=>h.eqs rfl rfl
theorem fR.rest (h:fR x):fR (ik x):=by
 unfold ik
 exact bw (fun _=>bw (fun _=>fR.again (h.eqs rfl rfl)) fun _=>h.eqs rfl rfl) fun _=>h
theorem fR.follow (h:fR x):fR (io x):=fR.again (h.eqs rfl rfl)
theorem fR.yield (h:fR x):fR (ti x an draw):=by
 unfold ti
 exact bw (fun _=>h.eqs rfl rfl) fun _=>h.pause
theorem fR.look (h:fR x):fR (rC x):=by
 unfold rC
 exact bw (fun _=>h.eqs rfl rfl) fun _=>bw (fun _=>fR.follow (h.eqs rfl rfl)) fun _=>fR.again (h.eqs rfl rfl)
theorem fR.over (h:fR x):fR (AH x):=by
 unfold AH
 exact bw (fun _=>h.follow) fun _=>fR.look (h.eqs rfl rfl)
theorem fR.ended (h:fR x):fR (lD x a draw pick sl):=by
 unfold lD
 refine bw (fun _=>bw (fun _=>h.eqs rfl rfl) fun _=>fR.pause (h.eqs rfl rfl)) fun _=>bw (fun _=>bw (fun _=>fR.again (h.eqs rfl rfl)) fun _=>h.eqs rfl rfl) fun _=>bw (fun _=>?_) fun _=>fR.over (h.eqs rfl rfl)
 unfold Bd
 exact bw (fun _=>fR.follow (h.eqs rfl rfl)) fun _=>fR.follow (h.eqs rfl rfl)
theorem fR.wake {s v:Int}(h:fR x):fR (il x s v):=by
 unfold il
 cases e:x.now with
 | none=>exact h
 | some a=>exact bw (fun _=>bw (fun _=>h.again) fun _=>bw (fun _=>h.eqs rfl e.symm) fun _=>h) fun _=>h
theorem sr.ans (h:sr m)(ht:t∈m.thr)(h1:t.state=1)(ha:t.now=some a):jn (bm a (az m.mem (cn a).1).2):=by
 have hA:=(h.thr t ht).now a ha
 by_cases c:a.state=8∨a.state=0∨a.state=1∨a.state=2∨a.state=7
 ·
  rcases c with c | c | c | c | c
  all_goals
   unfold bm
   simp only [c,Int.reduceEq,if_false,if_true]
  ·exact hA
  ·exact⟨hA.run,hA.v,hA.inn⟩
  ·exact⟨hA.run,hA.v,hA.inn⟩
  ·exact hA.work
  ·exact⟨hA.run,hA.v,hA.inn⟩
 ·have e:cn a=a.inn.next:=by
   unfold cn
   rw [if_neg (fun g=>c (.inr (.inl g))),if_neg (fun g=>c (.inr (.inr (.inl g)))),if_neg (fun g=>c (.inr (.inr (.inr (.inl g))))),if_neg (fun g=>c (.inr (.inr (.inr (.inr g))))),if_neg (fun g=>c (.inl g))]
  rw [e]
  exact hA.tell (hA.inn.tell h.mem)
abbrev S4 (z:rq×Bool):Prop:=z.1.kind=2→jQ z.1.word
theorem sr.op (h:sr m)(ht:t∈m.thr):(bj t).1.kind=2→jQ (bj t).1.word:=by
 unfold bj
 by_cases c1:t.state=1
 ·rw [if_pos c1]
  cases ha:t.now with
  | none=>intro g;cases g
  | some a =>
   have hA:=(h.thr t ht).now a ha
   simp only
   unfold cn
   refine bw (P:=S4) (fun _ g=>(by cases g)) fun _=>bw (P:=S4) (fun _ g=>(by cases g)) fun _=>bw (P:=S4) (fun _ g=>(by cases g)) fun _=>bw (P:=S4) (fun _ g=>(by cases g)) fun _=>bw (P:=S4) (fun _ g=>(by cases g)) fun _=>hA.inn.next
 ·rw [if_neg c1]
  exact bw (P:=S4) (fun _ g=>(by cases g)) fun _=>bw (P:=S4) (fun _ g=>(by cases g)) fun _ g=>(by cases g)
theorem sr.thrTell (h:sr m)(ht:t∈m.thr):fR (thrTell t (az m.mem (bj t).1).2 draw pick sl):=by
 have hT:=h.thr t ht
 unfold S.thrTell
 by_cases c1:t.state=1
 ·rw [if_pos c1]
  cases ha:t.now with
  | none=>exact hT
  | some a =>
   have en:bj t=cn a:=by unfold bj;rw [if_pos c1,ha]
   have hU:=h.ans ht c1 ha
   rw [en]
   simp only
   unfold qz
   have h2:fR { t with now:=some (bm a (az m.mem (cn a).1).2),born:=if (bm a (az m.mem (cn a).1).2).begun && !a.begun then pick else t.born }:=⟨hT.jobs,fun b g=>(by cases g;exact hU)⟩
   exact bw (fun _=>h2.ended) fun _=>h2
 ·rw [if_neg c1]
  refine bw (fun _=>hT.yield) fun _=>bw (fun _=>?_) fun _=>hT
  unfold xL
  exact fR.look (hT.eqs rfl rfl)
theorem Pr {k j:Nat}{s v:Int}{l:List co}(h:∀t∈l,fR t):∀t∈jc j s v k l,fR t:=fun t ht=>by
 unfold jc at ht
 obtain⟨q,hq,rfl⟩:=List.mem_mapIdx.1 ht
 exact bw (fun _=>(h _ (List.getElem_mem _)).wake) fun _=>h _ (List.getElem_mem _)
theorem MU {l:List co}(h:∀t∈l,fR t)(hu:fR u):∀t∈l.set i u,fR t:=fun t ht=>(List.mem_or_eq_of_mem_set ht).elim (h t) fun e=>by rw [e];exact hu
theorem sr.step (h:sr m)(ht:m.thr[i]? = some t):sr (if (bj t).2=true then l8 m i t draw sl else rm m i t):=by
 have hm:=List.mem_of_getElem? ht
 refine bw (fun _=>?_) fun _=>?_
 ·unfold l8
  refine⟨Sy h.mem (h.op hm),?_⟩
  have h2:=MU (i:=i) h.thr (h.thrTell (draw:=draw) (pick:=m.picks+1) (sl:=sl) hm)
  exact bw (P:=fun l:List co=>∀t∈l,fR t) (fun _=>Pr h2) fun _=>h2
 ·exact⟨h.mem,MU h.thr (h.thr t hm).rest⟩
theorem sr.new {s:eO}{rows:List (List (List bu))}(hr:∀r∈rows,∀p∈r,∀i∈p,jQ i.n):sr (eH s rows):=by
 refine⟨?_,?_⟩
 ·show ∀n∈(kH (tO _) 6).w,jQ n
  refine Sy (o:=⟨2,5,0,14,ah,ah⟩) (fun n hn=>?_) (fun _=>⟨by decide,by decide⟩)
  rw [List.eq_of_mem_replicate hn];exact kU
 ·have key:∀{l:List (List (List bu))} {S:eO} {k:Nat},(∀r∈l,∀p∈r,∀i∈p,jQ i.n)→∀t∈jg S k l,fR t:=fun {l}=>by
   induction l with
   | nil=>intro S k _ t ht;cases ht
   | cons r l ih =>
    intro S k h t ht
    rcases List.mem_cons.1 ht with e | e
    ·rw [e]
     exact fR.follow ⟨h r List.mem_cons_self,fun a g=>(by cases g)⟩
    ·exact ih (fun q hq=>h q (List.mem_cons_of_mem _ hq)) t e
  exact key hr
end
end Go.Proofs.YtoealglbimbbmaaGreatDoor.S
