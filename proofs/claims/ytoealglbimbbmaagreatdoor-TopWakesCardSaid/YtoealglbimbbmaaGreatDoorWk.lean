import Derived.Test.YtoealglbimbbmaaGreatDoorData
namespace Go.Proofs.YtoealglbimbbmaaGreatDoor.S.Tw
open Go Go.Proofs
set_option linter.unusedVariables false
set_option linter.unusedSimpArgs false
inductive Job
 | takes (a b:Int) | puts (c:Int)
inductive Ph
 | coming | asking | marking
 | f0 | f1 (v:Int) | f2 (v w:Int)
 | x0 (blk:Bool) | x1 (blk:Bool) (T:Int) (i:Nat)
 | c0 | c1 (V:Int) | c2 (V:Int) | c3 (V now:Int) | c4 (V now:Int) (i:Nat) | c5 (V now:Int) | c6 (V now:Int) | c7 (V b:Int)
 | go (e b:Int) | yld (b since:Int) (y:Bool) | pause (p:Int) | wait | fin
 deriving DecidableEq
structure AT where
 ph:Ph
 job:Nat
 st:Int
 q:Int
 sec:Bool
 rd:List (Nat×Int)
 al:Bool
structure AM where
 lk:Nat→TLock
 w:Int→Int
 T:Int
 e:Nat→Int
structure Pr where
 sp:Int
 str:Int→Nat
 jobs:Nat→List Job
abbrev Pr.n (P:Pr)(i:Nat):Nat:=(P.jobs i).length
def Pr.job (P:Pr)(i k:Nat):Job:=(P.jobs i).getD k (.puts 8)
def place:Job→Bool→Int
 | .takes a b,sec=>if sec then b else a
 | .puts c,_=>c
def Job.word:Job→Int
 | .takes _ _=>0
 | .puts _=>1
def Job.tk:Job→Bool
 | .takes _ _=>true
 | .puts _=>false
def Pr.pl (P:Pr)(i:Nat)(a:AT):Int:=place (P.job i a.job) a.sec
def Pr.s (P:Pr)(i:Nat)(a:AT):Nat:=P.str (P.pl i a)
def upd {α:Type}(f:Nat→α)(k:Nat)(x:α):Nat→α:=fun j=>if j=k then x else f j
def updI (f:Int→Int)(k x:Int):Int→Int:=fun j=>if j=k then x else f j
def fresh (job:Nat):AT:=⟨.coming,job,0,0,false,[],false⟩
def pausing (a:AT)(p:Int):AT:=if p=0 then fresh a.job else { a with ph:=.pause p }
def waitW (me:Nat)(a:AT)(o:Int)(stop:Ph):AT:=if o > me then a else if 0≤a.q-1 then { a with q:=a.q-1 } else { a with ph:=stop }
def found (P:Pr)(me:Nat)(a:AT)(l:TLock):AT :=
 if l.held=true then waitW me { a with ph:=.f0 } l.owner (.go 5 l.owner)
 else if a.st<l.version then { a with ph:=.x0 false,q:=P.sp } else { a with ph:=.f1 l.version }
def addRd (l:List (Nat×Int))(s:Nat)(v:Int):List (Nat×Int):=if l.any (fun x=>decide (x.1=s)) then l else l++[(s,v)]
def got (P:Pr)(me:Nat)(a:AT)(v w:Int):AT :=
 if w≠0 then { a with rd:=addRd a.rd (P.s me a) v,q:=P.sp,ph:=.c0 }
 else if a.sec then { a with rd:=addRd a.rd (P.s me a) v,q:=P.sp,ph:=.x0 true }
 else { a with rd:=addRd a.rd (P.s me a) v,q:=P.sp,ph:=.f0,sec:=true }
def extended (P:Pr)(a:AT)(blk:Bool)(T:Int):AT:=if blk then { a with ph:=.go 3 (-1),st:=T } else { a with ph:=.f0,st:=T,q:=P.sp }
def proveP (s:Nat)(V now:Int):List (Nat×Int)→Nat→Ph
 | [],_=>.c5 V now
 | x::l,i=>if x.1=s then (if V=x.2 then proveP s V now l (i+1) else .c7 V (-1)) else .c4 V now i
def ended (P:Pr)(me:Nat)(a:AT)(e b p:Int):AT :=
 if e=5 then (if 0≤b∧b<3 then { a with ph:=.yld b 0 false } else pausing a p)
 else if e=3 then (if a.al then fresh a.job else { a with ph:=.wait })
 else if a.job+1=P.n me then { fresh (a.job+1) with ph:=.fin } else fresh (a.job+1)
def rdAt (a:AT)(i:Nat):Nat×Int:=a.rd.getD i (0,0)
def stepT (P:Pr)(me:Nat)(m:AM)(a:AT)(p:Int):AM×AT:=match a.ph with
 | .coming=>({ m with e:=upd m.e me 1 },{ a with ph:=.asking })
 | .asking=>(m,{ a with ph:=.marking,st:=m.T })
 | .marking=>({ m with e:=upd m.e me (a.st+1) },{ a with ph:=if (P.job me a.job).tk then .f0 else .c0,q:=P.sp })
 | .f0=>(m,found P me a (m.lk (P.s me a)))
 | .f1 v=>(m,{ a with ph:=.f2 v (m.w (P.pl me a)) })
 | .f2 v w=>(m,if m.lk (P.s me a)=⟨v,false,0⟩ then got P me a v w else found P me a (m.lk (P.s me a)))
 | .x0 blk=>(m,if a.rd=[] then extended P a blk m.T else { a with ph:=.x1 blk m.T 0 })
 | .x1 blk T i=>(m,if (m.lk (rdAt a i).1).held=true then waitW me a (m.lk (rdAt a i).1).owner (.go 5 (m.lk (rdAt a i).1).owner)
   else if (m.lk (rdAt a i).1).version≠(rdAt a i).2 then { a with ph:=.go 5 (-1) }
   else if i+1=a.rd.length then extended P a blk T else { a with ph:=.x1 blk T (i+1) })
 | .c0=>(m,if (m.lk (P.s me a)).held=true then waitW me a (m.lk (P.s me a)).owner (.go 5 (m.lk (P.s me a)).owner) else { a with ph:=.c1 (m.lk (P.s me a)).version })
 | .c1 V=>if m.lk (P.s me a)=⟨V,false,0⟩ then ({ m with lk:=upd m.lk (P.s me a) ⟨V,true,me⟩ },{ a with ph:=.c2 V }) else (m,{ a with ph:=.c0 })
 | .c2 V=>(m,{ a with ph:=.c3 V m.T })
 | .c3 V now=>if m.T=now then ({ m with T:=now+1 },{ a with ph:=if now=a.st then .c5 V now else proveP (P.s me a) V now a.rd 0 }) else (m,{ a with ph:=.c2 V })
 | .c4 V now i=>(m,if (m.lk (rdAt a i).1).held=true then waitW me a (m.lk (rdAt a i).1).owner (.c7 V (m.lk (rdAt a i).1).owner)
   else if (m.lk (rdAt a i).1).version≠(rdAt a i).2 then { a with ph:=.c7 V (-1) }
   else { a with ph:=proveP (P.s me a) V now (a.rd.drop (i+1)) (i+1) })
 | .c5 V now=>({ m with w:=updI m.w (P.pl me a) (P.job me a.job).word },{ a with ph:=.c6 V now })
 | .c6 V now=>({ m with lk:=upd m.lk (P.s me a) ⟨now+1,false,0⟩ },{ a with ph:=.go 2 (-1) })
 | .c7 V b=>({ m with lk:=upd m.lk (P.s me a) ⟨V,false,0⟩ },{ a with ph:=.go 5 b })
 | .go e b=>({ m with e:=upd m.e me 0 },ended P me a e b p)
 | .yld b since y=>(m,if m.e b.toNat≠0∧(y=false∨m.e b.toNat=since) then { a with ph:=.yld b (m.e b.toNat) true } else pausing a p)
 | .pause p'=>(m,if p'=1 then fresh a.job else { a with ph:=.pause (p'-1) })
 | .wait=>(m,a)
 | .fin=>(m,a)
def news (rd:List (Nat×Int))(s:Nat)(ver:Int):Bool:=rd.any fun x=>decide (x.1=s) && !decide (x.2=ver)
def blocks:Ph→Bool
 | .x0 b=>b
 | .x1 b _ _=>b
 | .go e _=>decide (e=3)
 | _=>false
def wakeT (a:AT)(s:Nat)(ver:Int):AT:=if news a.rd s ver=true then (if a.ph=.wait then fresh a.job else if blocks a.ph=true then { a with al:=true } else a) else a
def relOf (P:Pr)(me:Nat)(a:AT):Option (Nat×Int):=match a.ph with
 | .c6 _ now=>some (P.s me a,now+1)
 | .c7 V _=>some (P.s me a,V)
 | _=>none
def stepS (P:Pr)(me:Nat)(S:Nat→AT)(a':AT):Nat→AT:=match relOf P me (S me) with
 | none=>upd S me a'
 | some (s,v)=>fun k=>if k=me then a' else wakeT (S k) s v
def hold:Ph→Bool
 | .c2 _=>true | .c3 _ _=>true | .c4 _ _ _=>true | .c5 _ _=>true | .c6 _ _=>true | .c7 _ _=>true
 | _=>false
def raised:Ph→Option Int
 | .c4 _ now _=>some now | .c5 _ now=>some now | .c6 _ now=>some now
 | _=>none
def stored:Ph→Bool
 | .c6 _ _=>true
 | _=>false
section
variable (P:Pr)(m:AM)(S:Nat→AT)
def SeenOk (i:Nat)(st:Int)(x:Nat×Int):Prop :=
 0≤x.2∧x.2≤st∧((m.lk x.1).version=x.2∨st<(m.lk x.1).version)∧∀k,k<3→k≠i→∀now,raised (S k).ph=some now→P.s k (S k)=x.1→st<now+1
def KnowOk (i:Nat)(c v w:Int):Prop :=
 (m.lk (P.str c)).version=v→(∀k,k<3→k≠i→stored (S k).ph=true→P.s k (S k)≠P.str c)→m.w c=w
def Cur (x:Nat×Int):Prop:=(m.lk x.1).version=x.2
def Run (i:Nat)(a:AT):Prop:=a.job<P.n i∧1≤m.e i∧0≤a.st∧a.st≤m.T∧0≤a.q∧a.q≤4
def Rds (i:Nat)(a:AT):Prop:=∀x∈a.rd,SeenOk P m S i a.st x
def Fet (i:Nat)(a:AT):Prop :=
 (P.job i a.job).tk=true∧Rds P m S i a∧(a.sec=false→a.rd=[])∧(a.sec=true→∃v,a.rd=[(P.str (place (P.job i a.job) false),v)]∧KnowOk P m S i (place (P.job i a.job) false) v 0)∧a.al=false
def Blk (i:Nat)(a:AT):Prop :=
 (P.job i a.job).tk=true∧Rds P m S i a∧a.rd.length≤2∧∀sec,∃v,(P.str (place (P.job i a.job) sec),v)∈a.rd∧KnowOk P m S i (place (P.job i a.job) sec) v 0
def Stale (a:AT):Prop:=∃x∈a.rd,¬Cur m x
def Lo (i:Nat)(a:AT):Prop:=match a.ph with
 | .coming=>a.job<P.n i∧m.e i=0∧a.rd=[]∧a.sec=false∧a.al=false
 | .asking=>a.job<P.n i∧m.e i=1∧a.rd=[]∧a.sec=false∧a.al=false
 | .marking=>a.job<P.n i∧m.e i=1∧0≤a.st∧a.st≤m.T∧a.rd=[]∧a.sec=false∧a.al=false
 | .f0=>Run P m i a∧Fet P m S i a
 | .f1 v=>Run P m i a∧Fet P m S i a∧SeenOk P m S i a.st (P.s i a,v)
 | .f2 v w=>Run P m i a∧Fet P m S i a∧SeenOk P m S i a.st (P.s i a,v)∧KnowOk P m S i (P.pl i a) v w∧0≤w
 | .x0 blk=>Run P m i a∧(if blk=true then Blk P m S i a∧(a.al=true→Stale m a) else Fet P m S i a)
 | .x1 blk T j=>Run P m i a∧j<a.rd.length∧a.st≤T∧T≤m.T∧(∀k x,k<j→a.rd[k]? = some x→SeenOk P m S i T x) ∧
   (if blk=true then Blk P m S i a∧(a.al=true→Stale m a)∧(a.al=false→∀k x,k<j→a.rd[k]? = some x→Cur m x) else Fet P m S i a)
 | .c0=>Run P m i a∧Rds P m S i a∧a.rd.length≤2
 | .c1 V=>Run P m i a∧Rds P m S i a∧a.rd.length≤2∧0≤V∧V≤m.T
 | .c2 V=>Run P m i a∧Rds P m S i a∧a.rd.length≤2∧0≤V∧V≤m.T∧m.lk (P.s i a)=⟨V,true,i⟩
 | .c3 V now=>Run P m i a∧Rds P m S i a∧a.rd.length≤2∧0≤V∧V≤now∧m.lk (P.s i a)=⟨V,true,i⟩∧now≤m.T∧a.st≤now
 | .c4 V now j=>Run P m i a∧Rds P m S i a∧a.rd.length≤2∧0≤V∧V≤now∧m.lk (P.s i a)=⟨V,true,i⟩∧now+1≤m.T∧a.st≤now∧j<a.rd.length∧(rdAt a j).1≠P.s i a
 | .c5 V now=>Run P m i a∧a.rd.length≤2∧0≤V∧V≤now∧m.lk (P.s i a)=⟨V,true,i⟩∧now+1≤m.T
 | .c6 V now=>Run P m i a∧a.rd.length≤2∧0≤V∧V≤now∧m.lk (P.s i a)=⟨V,true,i⟩∧now+1≤m.T
 | .c7 V b=>Run P m i a∧a.rd.length≤2∧0≤V∧V≤m.T∧m.lk (P.s i a)=⟨V,true,i⟩∧(b=-1∨(0≤b∧b<i))
 | .go e b=>a.job<P.n i∧1≤m.e i∧0≤a.st∧a.st≤m.T∧(e=2∨(e=5∧(b=-1∨(0≤b∧b<i)))∨(e=3∧Blk P m S i a∧(a.al=true→Stale m a)∧(a.al=false→∀x∈a.rd,Cur m x)))
 | .yld b since y=>a.job<P.n i∧m.e i=0∧0≤b∧b<i
 | .pause p=>a.job<P.n i∧m.e i=0∧1≤p∧p≤8
 | .wait=>a.job<P.n i∧m.e i=0∧0≤a.st∧a.st≤m.T∧Blk P m S i a∧∀x∈a.rd,Cur m x
 | .fin=>a.job=P.n i∧m.e i=0
structure Inv:Prop where
 v0:∀s,0≤(m.lk s).version∧(m.lk s).version≤m.T
 t0:0≤m.T
 w0:∀c,0≤m.w c
 free:∀s,(m.lk s).held=false→(m.lk s).owner=0
 heldBy:∀s,(m.lk s).held=true→∃i:Nat,i<3∧(m.lk s).owner=i∧hold (S i).ph=true∧P.s i (S i)=s
 lo:∀i,i<3→Lo P m S i (S i)
end
structure Tr (P:Pr)(m:AM)(S:Nat→AT)(m':AM)(S':Nat→AT)(me:Nat):Prop where
 T:m.T≤m'.T
 ver:∀s,(m'.lk s).version=(m.lk s).version∨∃now,raised (S me).ph=some now∧P.s me (S me)=s∧(m'.lk s).version=now+1
 ra:∀j,j<3→∀now,raised (S' j).ph=some now→(raised (S j).ph=some now∧P.s j (S' j)=P.s j (S j))∨m.T≤now
 sto:∀j,j<3→stored (S j).ph=true→(stored (S' j).ph=true∧P.s j (S' j)=P.s j (S j))∨(j=me∧∃now,raised (S j).ph=some now∧(m'.lk (P.s j (S j))).version=now+1)
 w:∀c,m'.w c=m.w c∨(stored (S' me).ph=true∧P.s me (S' me)=P.str c)
section
variable {P:Pr}{m m':AM}{S S':Nat→AT}{me k:Nat}
theorem seen_tr {st:Int}{x:Nat×Int}(ht:Tr P m S m' S' me)(hm:me<3)(hk:k≠me)(hst:st≤m.T)(h:SeenOk P m S k st x):SeenOk P m' S' k st x:=by
 obtain⟨h1,h2,h3,h4⟩:=h
 refine⟨h1,h2,?_,fun j hj hjk now hr hs=>?_⟩
 ·rcases ht.ver x.1 with e | ⟨now,r,e1,e2⟩
  ·rw [e];exact h3
  ·have:=h4 me hm (fun g=>hk g.symm) now r e1
   right;omega
 ·rcases ht.ra j hj now hr with ⟨r,e⟩ | e
  ·exact h4 j hj hjk now r (by rw [←e];exact hs)
  ·omega
theorem know_tr {st c v w:Int}(ht:Tr P m S m' S' me)(hm:me<3)(hk:k≠me)(hs:SeenOk P m S k st (P.str c,v))(h:KnowOk P m S k c v w):KnowOk P m' S' k c v w:=by
 obtain⟨h1,h2,h3,h4⟩:=hs
 simp only at h2 h4
 intro e hno
 have hv:(m'.lk (P.str c)).version=(m.lk (P.str c)).version:=by
  rcases ht.ver (P.str c) with g | ⟨now,r,e1,e2⟩
  ·exact g
  ·have:=h4 me hm (fun g=>hk g.symm) now r e1;omega
 rcases ht.w c with g | ⟨g1,g2⟩
 ·rw [g]
  refine h (by rw [←hv];exact e) fun j hj hjk hst hp=>?_
  rcases ht.sto j hj hst with ⟨g1,g2⟩ | ⟨rfl,now,r,e2⟩
  ·exact hno j hj hjk g1 (by rw [g2];exact hp)
  ·have:=h4 j hj hjk now r hp
   rw [hp] at e2;omega
 ·exact absurd g2 (hno me hm (fun g=>hk g.symm) g1)
theorem rds_tr {a:AT}(ht:Tr P m S m' S' me)(hm:me<3)(hk:k≠me)(hst:a.st≤m.T)(h:Rds P m S k a):Rds P m' S' k a:=fun x hx=>seen_tr ht hm hk hst (h x hx)
theorem fet_tr {a:AT}(ht:Tr P m S m' S' me)(hm:me<3)(hk:k≠me)(hst:a.st≤m.T)(h:Fet P m S k a):Fet P m' S' k a:=by
 obtain⟨h1,h2,h3,h4,h5⟩:=h
 refine⟨h1,rds_tr ht hm hk hst h2,h3,fun g=>?_,h5⟩
 obtain⟨v,e1,e2⟩:=h4 g
 exact⟨v,e1,know_tr ht hm hk (h2 _ (by rw [e1];simp)) e2⟩
theorem blk_tr {a:AT}(ht:Tr P m S m' S' me)(hm:me<3)(hk:k≠me)(hst:a.st≤m.T)(h:Blk P m S k a):Blk P m' S' k a:=by
 obtain⟨h1,h2,h3,h4⟩:=h
 refine⟨h1,rds_tr ht hm hk hst h2,h3,fun g=>?_⟩
 obtain⟨v,e1,e2⟩:=h4 g
 exact⟨v,e1,know_tr ht hm hk (h2 _ e1) e2⟩
theorem stale_tr {a:AT}(ht:Tr P m S m' S' me)(hm:me<3)(hk:k≠me)(hr:Rds P m S k a)(h:Stale m a):Stale m' a:=by
 obtain⟨x,hx,hc⟩:=h
 refine⟨x,hx,fun g=>hc ?_⟩
 obtain⟨h1,h2,h3,h4⟩:=hr x hx
 rcases ht.ver x.1 with e | ⟨now,r,e1,e2⟩
 ·show (m.lk x.1).version=x.2
  rw [←e];exact g
 ·have:=h4 me hm (fun g=>hk g.symm) now r e1
  have g:(m'.lk x.1).version=x.2:=g
  omega
theorem run_tr {a:AT}(hT:m.T≤m'.T)(he:m'.e k=m.e k)(h:Run P m k a):Run P m' k a:=by
 obtain⟨h1,h2,h3,h4,h5⟩:=h
 exact⟨h1,by rw [he];exact h2,h3,by omega,h5⟩
theorem Lo_ot {a:AT}{al':Bool}(ht:Tr P m S m' S' me)(hm:me<3)(hk:k≠me)(he:m'.e k=m.e k)(hh:hold a.ph=true→m'.lk (P.s k a)=m.lk (P.s k a))
  (hb:blocks a.ph=true→(al'=true→a.al=true∨Stale m' a)∧(al'=false→a.al=false∧∀x∈a.rd,Cur m x→Cur m' x)) (hw:a.ph=.wait→∀x∈a.rd,Cur m x→Cur m' x) (hn:blocks a.ph=false→al'=a.al)
  (h:Lo P m S k a):Lo P m' S' k { a with al:=al' }:=by
 have hT:=ht.T
 obtain⟨ph,job,st,q,sec,rd,al⟩:=a
 cases ph
 case coming =>
  cases (hn rfl:al'=al)
  simp only [Lo] at h ⊢;rw [he];exact h
 case asking =>
  cases (hn rfl:al'=al)
  simp only [Lo] at h ⊢;rw [he];exact h
 case marking =>
  cases (hn rfl:al'=al)
  simp only [Lo] at h ⊢;rw [he];exact⟨h.1,h.2.1,h.2.2.1,by omega,h.2.2.2.2⟩
 case f0 =>
  cases (hn rfl:al'=al)
  simp only [Lo] at h ⊢
  exact⟨run_tr hT he h.1,fet_tr ht hm hk h.1.2.2.2.1 h.2⟩
 case f1 v =>
  cases (hn rfl:al'=al)
  simp only [Lo] at h ⊢
  exact⟨run_tr hT he h.1,fet_tr ht hm hk h.1.2.2.2.1 h.2.1,seen_tr ht hm hk h.1.2.2.2.1 h.2.2⟩
 case f2 v w =>
  cases (hn rfl:al'=al)
  simp only [Lo] at h ⊢
  exact⟨run_tr hT he h.1,fet_tr ht hm hk h.1.2.2.2.1 h.2.1,seen_tr ht hm hk h.1.2.2.2.1 h.2.2.1,know_tr ht hm hk h.2.2.1 h.2.2.2.1,h.2.2.2.2⟩
 case x0 blk =>
  simp only [Lo] at h ⊢
  refine⟨run_tr hT he h.1,?_⟩
  have hst:=h.1.2.2.2.1
  have h2:=h.2
  cases blk
  ·cases (hn rfl:al'=al);rw [if_neg (by decide)] at h2 ⊢;exact fet_tr ht hm hk hst h2
  ·rw [if_pos rfl] at h2 ⊢
   refine⟨blk_tr ht hm hk hst h2.1,fun g=>?_⟩
   rcases(hb rfl).1 g with g | g
   ·exact stale_tr ht hm hk h2.1.2.1 (h2.2 g)
   ·exact g
 case x1 blk T j =>
  simp only [Lo] at h ⊢
  obtain⟨h1,h2,h3,h4,h5,h6⟩:=h
  have hst:=h1.2.2.2.1
  refine⟨run_tr hT he h1,h2,h3,by omega,fun i x hi hx=>seen_tr ht hm hk h4 (h5 i x hi hx),?_⟩
  cases blk
  ·cases (hn rfl:al'=al);rw [if_neg (by decide)] at h6 ⊢;exact fet_tr ht hm hk hst h6
  ·rw [if_pos rfl] at h6 ⊢
   refine⟨blk_tr ht hm hk hst h6.1,fun g=>?_,fun g i x hi hx=>?_⟩
   ·rcases(hb rfl).1 g with g | g
    ·exact stale_tr ht hm hk h6.1.2.1 (h6.2.1 g)
    ·exact g
   ·obtain⟨g1,g2⟩:=(hb rfl).2 g
    exact g2 x (List.mem_of_getElem? hx) (h6.2.2 g1 i x hi hx)
 case c0 =>
  simp only [Lo] at h ⊢
  exact⟨run_tr hT he h.1,rds_tr ht hm hk h.1.2.2.2.1 h.2.1,h.2.2⟩
 case c1 V =>
  simp only [Lo] at h ⊢
  exact⟨run_tr hT he h.1,rds_tr ht hm hk h.1.2.2.2.1 h.2.1,h.2.2.1,h.2.2.2.1,by omega⟩
 case c2 V =>
  simp only [Lo] at h ⊢
  obtain⟨h1,h2,h3,h4,h5,h6⟩:=h
  exact⟨run_tr hT he h1,rds_tr ht hm hk h1.2.2.2.1 h2,h3,h4,by omega,(hh rfl).trans h6⟩
 case c3 V now =>
  simp only [Lo] at h ⊢
  obtain⟨h1,h2,h3,h4,h5,h6,h7,h8⟩:=h
  exact⟨run_tr hT he h1,rds_tr ht hm hk h1.2.2.2.1 h2,h3,h4,h5,(hh rfl).trans h6,by omega,h8⟩
 case c4 V now j =>
  simp only [Lo] at h ⊢
  obtain⟨h1,h2,h3,h4,h5,h6,h7,h8⟩:=h
  exact⟨run_tr hT he h1,rds_tr ht hm hk h1.2.2.2.1 h2,h3,h4,h5,(hh rfl).trans h6,by omega,h8⟩
 case c5 V now =>
  simp only [Lo] at h ⊢
  obtain⟨h1,h3,h4,h5,h6,h7⟩:=h
  exact⟨run_tr hT he h1,h3,h4,h5,(hh rfl).trans h6,by omega⟩
 case c6 V now =>
  simp only [Lo] at h ⊢
  obtain⟨h1,h3,h4,h5,h6,h7⟩:=h
  exact⟨run_tr hT he h1,h3,h4,h5,(hh rfl).trans h6,by omega⟩
 case c7 V b =>
  simp only [Lo] at h ⊢
  obtain⟨h1,h3,h4,h5,h6,h7⟩:=h
  exact⟨run_tr hT he h1,h3,h4,by omega,(hh rfl).trans h6,h7⟩
 case go e b =>
  simp only [Lo] at h ⊢
  obtain⟨h1,h2,h3,h4,h5⟩:=h
  refine⟨h1,by rw [he];exact h2,h3,by omega,?_⟩
  rcases h5 with h5 | h5 | ⟨h5,h6,h7,h8⟩
  ·exact .inl h5
  ·exact .inr (.inl h5)
  ·have hb:=hb (by simp [blocks,h5])
   refine .inr (.inr ⟨h5,blk_tr ht hm hk h4 h6,fun g=>?_,fun g x hx=>?_⟩)
   ·rcases hb.1 g with g | g
    ·exact stale_tr ht hm hk h6.2.1 (h7 g)
    ·exact g
   ·obtain⟨g1,g2⟩:=hb.2 g
    exact g2 x hx (h8 g1 x hx)
 case yld b since y=>simp only [Lo] at h ⊢;rw [he];exact h
 case pause p=>simp only [Lo] at h ⊢;rw [he];exact h
 case wait =>
  simp only [Lo] at h ⊢
  obtain⟨h1,h2,h3,h4,h5,h6⟩:=h
  exact⟨h1,by rw [he];exact h2,h3,by omega,blk_tr ht hm hk h4 h5,fun x hx=>hw rfl x hx (h6 x hx)⟩
 case fin=>simp only [Lo] at h ⊢;rw [he];exact h
theorem Lo_wake {a:AT}{s:Nat}{ver:Int}(ht:Tr P m S m' S' me)(hm:me<3)(hk:k≠me)(he:m'.e k=m.e k)(hh:hold a.ph=true→m'.lk (P.s k a)=m.lk (P.s k a))
  (hv:(m'.lk s).version=ver) (ho:∀s',s'≠s→(m'.lk s').version=(m.lk s').version) (h:Lo P m S k a):Lo P m' S' k (wakeT a s ver):=by
 unfold wakeT
 by_cases c:news a.rd s ver=true
 ·rw [if_pos c]
  by_cases cw:a.ph=.wait
  ·rw [if_pos cw]
   unfold Lo at h
   rw [cw] at h
   exact⟨h.1,by rw [he];exact h.2.1,rfl,rfl,rfl⟩
  ·rw [if_neg cw]
   by_cases cb:blocks a.ph=true
   ·rw [if_pos cb]
    refine Lo_ot (al':=true) ht hm hk he hh (fun _=>⟨fun _=>.inr ?_,fun g=>(by cases g)⟩) (fun g=>absurd g cw) (fun g=>by rw [cb] at g;cases g) h
    unfold news at c
    rw [List.any_eq_true] at c
    obtain⟨x,hx,g⟩:=c
    simp only [Bool.and_eq_true,decide_eq_true_eq,Bool.not_eq_true',decide_eq_false_iff_not] at g
    refine⟨x,hx,fun g2=>g.2 ?_⟩
    have g2:(m'.lk x.1).version=x.2:=g2
    rw [←g2,g.1,hv]
   ·rw [if_neg cb]
    have:=Lo_ot (al':=a.al) ht hm hk he hh (fun g=>absurd g cb) (fun g=>absurd g cw) (fun _=>rfl) h
    exact this
 ·rw [if_neg c]
  have hc:∀x∈a.rd,Cur m x→Cur m' x:=fun x hx g=>by
   by_cases e:x.1=s
   ·have:x.2=ver:=by
     refine Decidable.byContradiction fun g2=>c ?_
     unfold news
     rw [List.any_eq_true]
     exact⟨x,hx,by simp [e,g2]⟩
    show (m'.lk x.1).version=x.2
    rw [e,hv,this]
   ·show (m'.lk x.1).version=x.2
    rw [ho _ e];exact g
  exact Lo_ot (al':=a.al) ht hm hk he hh (fun _=>⟨fun g=>.inl g,fun g=>⟨g,hc⟩⟩) (fun _=>hc) (fun _=>rfl) h
end
structure PrOk (P:Pr):Prop where
 sp:0≤P.sp∧P.sp≤4
theorem upd_me {α:Type}{f:Nat→α}{k:Nat}{x:α}:upd f k x k=x:=if_pos rfl
theorem upd_ot {α:Type}{f:Nat→α}{k j:Nat}{x:α}(h:j≠k):upd f k x j=f j:=if_neg h
section
variable {P:Pr}{m m':AM}{S S':Nat→AT}{me k:Nat}{a b:AT}
theorem seen_me {st:Int}{x:Nat×Int}(hv:∀s,(m'.lk s).version=(m.lk s).version)(hS:∀j,j≠me→S' j=S j)(h:SeenOk P m S me st x):SeenOk P m' S' me st x :=
 ⟨h.1,h.2.1,by rw [hv];exact h.2.2.1,fun j hj hjk now hr hs=>by rw [hS j hjk] at hr hs;exact h.2.2.2 j hj hjk now hr hs⟩
theorem know_me {c v w:Int}(hv:∀s,(m'.lk s).version=(m.lk s).version)(hw:∀c,m'.w c=m.w c)(hS:∀j,j≠me→S' j=S j)(h:KnowOk P m S me c v w):KnowOk P m' S' me c v w:=by
 intro e hno
 rw [hw]
 exact h (by rw [←hv];exact e) fun j hj hjk hst hp=>hno j hj hjk (by rw [hS j hjk];exact hst) (by rw [hS j hjk];exact hp)
structure Same (a b:AT):Prop where
 job:b.job=a.job
 rd:b.rd=a.rd
 st:b.st=a.st
 sec:b.sec=a.sec
 al:b.al=a.al
theorem rds_me (hv:∀s,(m'.lk s).version=(m.lk s).version)(hS:∀j,j≠me→S' j=S j)(he:Same a b)(h:Rds P m S me a):Rds P m' S' me b:=fun x hx=>by
 rw [he.st];rw [he.rd] at hx;exact seen_me hv hS (h x hx)
theorem fet_me (hv:∀s,(m'.lk s).version=(m.lk s).version)(hw:∀c,m'.w c=m.w c)(hS:∀j,j≠me→S' j=S j)(he:Same a b)(h:Fet P m S me a):Fet P m' S' me b:=by
 obtain⟨h1,h2,h3,h4,h5⟩:=h
 refine⟨by rw [he.job];exact h1,rds_me hv hS he h2,by rw [he.sec,he.rd];exact h3,by
  rw [he.sec,he.rd,he.job]
  intro g
  obtain⟨v,e1,e2⟩:=h4 g
  exact⟨v,e1,know_me hv hw hS e2⟩,by rw [he.al];exact h5⟩
theorem blk_me (hv:∀s,(m'.lk s).version=(m.lk s).version)(hw:∀c,m'.w c=m.w c)(hS:∀j,j≠me→S' j=S j)(he:Same a b)(h:Blk P m S me a):Blk P m' S' me b:=by
 obtain⟨h1,h2,h3,h4⟩:=h
 refine⟨by rw [he.job];exact h1,rds_me hv hS he h2,by rw [he.rd];exact h3,fun g=>?_⟩
 obtain⟨v,e1,e2⟩:=h4 g
 exact⟨v,by rw [he.rd,he.job];exact e1,by rw [he.job];exact know_me hv hw hS e2⟩
theorem raised_hold {p:Ph}{now:Int}(h:raised p=some now):hold p=true:=by cases p <;> simp [raised,hold] at h ⊢
theorem stored_hold {p:Ph}(h:stored p=true):hold p=true:=by cases p <;> simp [stored,hold] at h ⊢
theorem holder_is (h:Lo P m S k a)(hq:hold a.ph=true):(m.lk (P.s k a)).held=true∧(m.lk (P.s k a)).owner=k:=by
 cases hp:a.ph <;> rw [hp] at hq <;> simp only [hold,Bool.false_eq_true] at hq <;> simp only [Lo,hp] at h
 ·obtain⟨_,_,_,_,_,e⟩:=h;rw [e];exact⟨rfl,rfl⟩
 ·obtain⟨_,_,_,_,_,e,_⟩:=h;rw [e];exact⟨rfl,rfl⟩
 ·obtain⟨_,_,_,_,_,e,_⟩:=h;rw [e];exact⟨rfl,rfl⟩
 ·obtain⟨_,_,_,_,e,_⟩:=h;rw [e];exact⟨rfl,rfl⟩
 ·obtain⟨_,_,_,_,e,_⟩:=h;rw [e];exact⟨rfl,rfl⟩
 ·obtain⟨_,_,_,_,e,_⟩:=h;rw [e];exact⟨rfl,rfl⟩
theorem free_lk (h:Inv P m S){s:Nat}(c:¬(m.lk s).held=true):m.lk s=⟨(m.lk s).version,false,0⟩:=by
 have h1:(m.lk s).held=false:=by simpa using c
 have h2:=h.free s h1
 cases hl:m.lk s with
 | mk v hd o=>rw [hl] at h1 h2;simp only at h1 h2;rw [h1,h2]
theorem free_no (h:Inv P m S){s:Nat}(c:¬(m.lk s).held=true):∀j,j<3→hold (S j).ph=true→P.s j (S j)≠s:=fun j hj hh e=>by
 have:=(holder_is (h.lo j hj) hh).1
 rw [e] at this;exact c this
theorem free_seen (h:Inv P m S){s:Nat}{st:Int}(c:¬(m.lk s).held=true)(hst:(m.lk s).version≤st):SeenOk P m S me st (s,(m.lk s).version) :=
 ⟨(h.v0 s).1,hst,.inl rfl,fun j hj _ now hr hs=>absurd hs (free_no h c j hj (raised_hold hr))⟩
theorem held_by (h:Inv P m S)(hh:hold (S me).ph=false){s:Nat}(c:(m.lk s).held=true):∃i:Nat,i<3∧i≠me∧(m.lk s).owner=i∧hold (S i).ph=true∧P.s i (S i)=s:=by
 obtain⟨i,h1,h2,h3,h4⟩:=h.heldBy s c
 exact⟨i,h1,fun e=>(by subst e;rw [hh] at h3;cases h3),h2,h3,h4⟩
theorem Inv.keep (h:Inv P m S)(hm:me<3)(e1:m'.lk=m.lk)(e2:m'.w=m.w)(e3:m.T≤m'.T)(e4:∀j,j≠me→m'.e j=m.e j)
  (f1:hold b.ph=hold (S me).ph) (f2:hold b.ph=true→P.s me b=P.s me (S me)) (f3:∀now,raised b.ph=some now→raised (S me).ph=some now∨m.T≤now) (f4:stored b.ph=stored (S me).ph)
  (hl:Lo P m' (upd S me b) me b):Inv P m' (upd S me b):=by
 have ht:Tr P m S m' (upd S me b) me:=by
  refine⟨e3,fun s=>.inl (by rw [e1]),fun j hj now hr=>?_,fun j hj hst=>.inl ?_,fun c=>.inl (by rw [e2])⟩
  ·by_cases c:j=me
   ·subst c
    rw [upd_me] at hr ⊢
    rcases f3 now hr with g | g
    ·exact .inl ⟨g,f2 (raised_hold hr)⟩
    ·exact .inr g
   ·rw [upd_ot c] at hr ⊢;exact .inl ⟨hr,rfl⟩
  ·by_cases c:j=me
   ·subst c
    rw [upd_me]
    have:stored b.ph=true:=by rw [f4];exact hst
    exact⟨this,f2 (stored_hold this)⟩
   ·rw [upd_ot c];exact⟨hst,rfl⟩
 refine⟨fun s=>by rw [e1];have:=h.v0 s;omega,by have:=h.t0;omega,fun c=>by rw [e2];exact h.w0 c,fun s=>by rw [e1];exact h.free s,fun s hs=>?_,fun i hi=>?_⟩
 ·rw [e1] at hs ⊢
  obtain⟨i,g1,g2,g3,g4⟩:=h.heldBy s hs
  refine⟨i,g1,g2,?_⟩
  by_cases c:i=me
  ·subst c
   rw [upd_me]
   exact⟨by rw [f1];exact g3,by rw [f2 (by rw [f1];exact g3)];exact g4⟩
  ·rw [upd_ot c];exact⟨g3,g4⟩
 ·by_cases c:i=me
  ·subst c;rw [upd_me];exact hl
  ·rw [upd_ot c]
   have hc:∀x,Cur m x→Cur m' x:=fun x g=>by show (m'.lk x.1).version=x.2;rw [e1];exact g
   exact Lo_ot (al':=(S i).al) ht hm c (e4 i c) (fun _=>by rw [e1]) (fun _=>⟨fun g=>.inl g,fun g=>⟨g,fun x _=>hc x⟩⟩) (fun _ x _=>hc x) (fun _=>rfl) (h.lo i hi)
end
section
variable {P:Pr}{m m':AM}{S S':Nat→AT}{me k:Nat}{a b:AT}{p:Int}
theorem held_lt (h:Inv P m S)(hh:hold (S me).ph=false){s:Nat}(c:(m.lk s).held=true)(c2:¬(m.lk s).owner > me):0≤(m.lk s).owner∧(m.lk s).owner<me:=by
 obtain⟨i,h1,h2,h3,_⟩:=held_by h hh c
 omega
theorem wait_cases (a:AT)(me:Nat)(o:Int)(stop:Ph):(waitW me a o stop=a∧o > me)∨(waitW me a o stop={ a with q:=a.q-1 }∧0≤a.q-1∧¬o > me)∨(waitW me a o stop={ a with ph:=stop }∧¬0≤a.q-1∧¬o > me):=by
 unfold waitW
 by_cases c:o > me
 ·rw [if_pos c];exact .inl ⟨rfl,c⟩
 ·rw [if_neg c]
  by_cases c2:0≤a.q-1
  ·rw [if_pos c2];exact .inr (.inl ⟨rfl,c2,c⟩)
  ·rw [if_neg c2];exact .inr (.inr ⟨rfl,c2,c⟩)
theorem found_keep (hP:PrOk P)(h:Inv P m S)(hm:me<3)(hh:hold (S me).ph=false)(hs:stored (S me).ph=false)(hr:Run P m me (S me))(hf:Fet P m (S) me (S me)) :
  Inv P m (upd S me (found P me (S me) (m.lk (P.s me (S me))))):=by
 have sp:=hP.sp
 have hS:∀b j,j≠me→upd S me b j=S j:=fun b j g=>upd_ot g
 have go:∀b:AT,hold b.ph=false→Lo P m (upd S me b) me b→Inv P m (upd S me b):=fun b hb hl =>
  h.keep hm rfl rfl (Int.le_refl _) (fun _ _=>rfl) (by rw [hb,hh]) (fun g=>by rw [hb] at g;cases g) (fun now g=>by have:=raised_hold g;rw [hb] at this;cases this) (by
   rw [hs]
   cases e:stored b.ph with
   | false=>rfl
   | true=>have:=stored_hold e;rw [hb] at this;cases this) hl
 obtain⟨r1,r2,r3,r4,r5,r6⟩:=hr
 unfold found
 by_cases c:(m.lk (P.s me (S me))).held=true
 ·rw [if_pos c]
  rcases wait_cases { S me with ph:=.f0 } me (m.lk (P.s me (S me))).owner (.go 5 (m.lk (P.s me (S me))).owner) with ⟨e,g⟩ | ⟨e,g,g2⟩ | ⟨e,g,g2⟩
  ·rw [e]
   exact go _ rfl ⟨⟨r1,r2,r3,r4,r5,r6⟩,fet_me (fun _=>rfl) (fun _=>rfl) (hS _) ⟨rfl,rfl,rfl,rfl,rfl⟩ hf⟩
  ·rw [e]
   simp only at g
   exact go _ rfl ⟨⟨r1,r2,r3,r4,g,by show (S me).q-1≤4;omega⟩,fet_me (fun _=>rfl) (fun _=>rfl) (hS _) ⟨rfl,rfl,rfl,rfl,rfl⟩ hf⟩
  ·rw [e]
   have:=held_lt h hh c g2
   exact go _ rfl ⟨r1,r2,r3,r4,.inr (.inl ⟨rfl,.inr this⟩)⟩
 ·rw [if_neg c]
  by_cases c2:(S me).st<(m.lk (P.s me (S me))).version
  ·rw [if_pos c2]
   refine go _ rfl ⟨⟨r1,r2,r3,r4,sp⟩,?_⟩
   rw [if_neg (by decide)]
   exact fet_me (fun _=>rfl) (fun _=>rfl) (hS _) ⟨rfl,rfl,rfl,rfl,rfl⟩ hf
  ·rw [if_neg c2]
   exact go _ rfl ⟨⟨r1,r2,r3,r4,r5,r6⟩,fet_me (fun _=>rfl) (fun _=>rfl) (hS _) ⟨rfl,rfl,rfl,rfl,rfl⟩ hf,seen_me (fun _=>rfl) (hS _) (free_seen (s:=P.s me (S me)) (st:=(S me).st) h c (by omega))⟩
theorem proveP_is {s:Nat}{V now:Int}{rd:List (Nat×Int)}:∀(l:List (Nat×Int))(i:Nat),l=rd.drop i→proveP s V now l i=.c5 V now∨(proveP s V now l i=.c7 V (-1)∧∃x∈rd,x.1=s∧V≠x.2)∨∃j,i≤j∧j<rd.length∧(rd.getD j (0,0)).1≠s∧proveP s V now l i=.c4 V now j:=by
 intro l
 induction l with
 | nil=>intro i _;exact .inl rfl
 | cons x l ih =>
  intro i hl
  have hi:i<rd.length:=by
   refine Decidable.byContradiction fun g=>?_
   rw [List.drop_eq_nil_of_le (by omega)] at hl;cases hl
  have hx:rd[i]=x∧rd.drop (i+1)=l:=by
   rw [List.drop_eq_getElem_cons hi] at hl
   cases hl;exact⟨rfl,rfl⟩
  unfold proveP
  by_cases c:x.1=s
  ·rw [if_pos c]
   by_cases c2:V=x.2
   ·rw [if_pos c2]
    rcases ih (i+1) hx.2.symm with g | g | ⟨j,g1,g2⟩
    ·exact .inl g
    ·exact .inr (.inl g)
    ·exact .inr (.inr ⟨j,by omega,g2⟩)
   ·rw [if_neg c2]
    exact .inr (.inl ⟨rfl,x,by rw [←hx.1];exact List.getElem_mem hi,c,c2⟩)
  ·rw [if_neg c]
   refine .inr (.inr ⟨i,Nat.le_refl _,hi,?_,rfl⟩)
   rw [List.getD_eq_getElem?_getD,List.getElem?_eq_getElem hi]
   simp only [Option.getD_some]
   rw [hx.1];exact c
theorem ext_lo (hP:PrOk P){blk:Bool}{T:Int}(hT:a.st≤T)(hT2:T≤m.T)(hr:Run P m me a)(hs:∀x∈a.rd,SeenOk P m S me T x)
  (hb:if blk=true then Blk P m S me a∧(a.al=true→Stale m a)∧(a.al=false→∀x∈a.rd,Cur m x) else Fet P m S me a):Lo P m S me (extended P a blk T):=by
 obtain⟨r1,r2,r3,r4,r5,r6⟩:=hr
 have sp:=hP.sp
 unfold extended
 cases blk
 ·rw [if_neg (by decide)] at hb ⊢
  obtain⟨h1,h2,h3,h4,h5⟩:=hb
  exact⟨⟨r1,r2,by show 0≤T;omega,hT2,sp⟩,h1,hs,h3,h4,h5⟩
 ·rw [if_pos rfl] at hb ⊢
  obtain⟨⟨h1,h2,h3,h4⟩,h5,h6⟩:=hb
  exact⟨r1,r2,by show 0≤T;omega,hT2,.inr (.inr ⟨rfl,⟨h1,hs,h3,h4⟩,h5,h6⟩)⟩
theorem prove_lo {V now:Int}{i:Nat}(hr:Run P m me a)(hs:Rds P m S me a)(hl:a.rd.length≤2)(hV:0≤V)(hV2:V≤now)(hk:m.lk (P.s me a)=⟨V,true,me⟩)(hn:now+1≤m.T)(hst:a.st≤now) :
  Lo P m S me { a with ph:=proveP (P.s me a) V now (a.rd.drop i) i }∧hold (proveP (P.s me a) V now (a.rd.drop i) i)=true∧stored (proveP (P.s me a) V now (a.rd.drop i) i)=false∧∀now',raised (proveP (P.s me a) V now (a.rd.drop i) i)=some now'→now'=now:=by
 rcases proveP_is (s:=P.s me a) (V:=V) (now:=now) (rd:=a.rd) _ i rfl with e | ⟨e,_⟩ | ⟨j,g1,g2,g3,e⟩
 ·rw [e];exact⟨⟨hr,hl,hV,hV2,hk,hn⟩,rfl,rfl,fun now' g=>by cases g;rfl⟩
 ·rw [e];exact⟨⟨hr,hl,hV,by omega,hk,.inl rfl⟩,rfl,rfl,fun now' g=>by cases g⟩
 ·rw [e];exact⟨⟨hr,hs,hl,hV,hV2,hk,hn,hst,g2,g3⟩,rfl,rfl,fun now' g=>by cases g;rfl⟩
end
section
variable {P:Pr}{m m':AM}{S S':Nat→AT}{me k:Nat}{a b:AT}{p:Int}
theorem Inv.turn (h:Inv P m S)(hm:me<3)(ht:Tr P m S m' S' me)
  (hS:∀j,j<3→j≠me→(S' j=S j∧∀x,Cur m x→Cur m' x)∨∃s ver,S' j=wakeT (S j) s ver∧(m'.lk s).version=ver∧∀s',s'≠s→(m'.lk s').version=(m.lk s').version)
  (he:∀j,j≠me→m'.e j=m.e j) (hh:∀j,j<3→j≠me→hold (S j).ph=true→m'.lk (P.s j (S j))=m.lk (P.s j (S j)))
  (v0:∀s,0≤(m'.lk s).version∧(m'.lk s).version≤m'.T) (w0:∀c,0≤m'.w c) (free:∀s,(m'.lk s).held=false→(m'.lk s).owner=0)
  (heldBy:∀s,(m'.lk s).held=true→∃i:Nat,i<3∧(m'.lk s).owner=i∧hold (S' i).ph=true∧P.s i (S' i)=s)
  (hl:Lo P m' S' me (S' me)):Inv P m' S':=by
 refine⟨v0,by have:=h.t0;have:=ht.T;omega,w0,free,heldBy,fun j hj=>?_⟩
 by_cases c:j=me
 ·subst c;exact hl
 ·rcases hS j hj c with ⟨e,g⟩ | ⟨s,ver,e,g1,g2⟩
  ·rw [e]
   exact Lo_ot (al':=(S j).al) ht hm c (he j c) (hh j hj c) (fun _=>⟨fun g=>.inl g,fun g2=>⟨g2,fun x _=>g x⟩⟩) (fun _ x _=>g x) (fun _=>rfl) (h.lo j hj)
  ·rw [e]
   exact Lo_wake ht hm c (he j c) (hh j hj c) g1 g2 (h.lo j hj)
theorem wake_ph {s:Nat}{v:Int}:hold (wakeT a s v).ph=hold a.ph∧raised (wakeT a s v).ph=raised a.ph∧stored (wakeT a s v).ph=stored a.ph∧(hold a.ph=true→P.s k (wakeT a s v)=P.s k a):=by
 unfold wakeT
 split
 ·split
  ·rename_i e;rw [e];exact⟨rfl,rfl,rfl,fun g=>(by cases g)⟩
  ·split
   ·exact⟨rfl,rfl,rfl,fun _=>rfl⟩
   ·exact⟨rfl,rfl,rfl,fun _=>rfl⟩
 ·exact⟨rfl,rfl,rfl,fun _=>rfl⟩
theorem upd_lk {s s':Nat}{l:TLock}(f:Nat→TLock)(h:s'≠s):upd f s l s'=f s':=if_neg h
theorem Inv.give (h:Inv P m S)(hm:me<3){ver e b:Int}(hh:hold (S me).ph=true)(hrun:Run P m me (S me))(hv:0≤ver∧ver≤m.T)(he:e=2∨(e=5∧(b=-1∨(0≤b∧b<me))))
  (h1:(∃now,raised (S me).ph=some now∧ver=now+1)∨((m.lk (P.s me (S me))).version=ver∧stored (S me).ph=false)) :
  Inv P { m with lk:=upd m.lk (P.s me (S me)) ⟨ver,false,0⟩ } (fun k=>if k=me then { S me with ph:=.go e b } else wakeT (S k) (P.s me (S me)) ver):=by
 have hol:=holder_is (h.lo me hm) hh
 have hne:∀j,j<3→j≠me→hold (S j).ph=true→P.s j (S j)≠P.s me (S me):=fun j hj hjm hj2 g=>by
  have:=(holder_is (h.lo j hj) hj2).2
  rw [g,hol.2] at this;omega
 have ot:∀j,j≠me→(if j=me then ({ S me with ph:=.go e b }:AT) else wakeT (S j) (P.s me (S me)) ver)=wakeT (S j) (P.s me (S me)) ver:=fun j g=>if_neg g
 refine h.turn hm (me:=me) ⟨Int.le_refl _,fun s=>?_,fun j hj now hr=>.inl ?_,fun j hj hst=>?_,fun c=>.inl rfl⟩ (fun j hj hjm=>.inr ⟨P.s me (S me),ver,if_neg hjm,by show (upd m.lk _ _ _).version=_;rw [upd_me],fun s' hs'=>by show (upd m.lk _ _ _).version=_;rw [upd_lk _ hs']⟩)
  (fun _ _=>rfl) (fun j hj hjm hj2=>upd_lk _ (hne j hj hjm hj2)) (fun s=>?_) h.w0 (fun s hs=>?_) (fun s hs=>?_) ?_
 ·by_cases c:s=P.s me (S me)
  ·subst c
   show (upd m.lk _ _ _).version=_∨_
   rcases h1 with ⟨now,r,e⟩ | ⟨e,_⟩
   ·refine .inr ⟨now,r,rfl,?_⟩
    show (upd m.lk _ _ _).version=_
    rw [upd_me];exact e
   ·left;rw [upd_me];exact e.symm
  ·left;show (upd m.lk _ _ _).version=_;rw [upd_lk _ c]
 ·by_cases c:j=me
  ·subst c;simp only [if_true] at hr;cases hr
  ·simp only [ot j c] at hr ⊢
   have w:=wake_ph (P:=P) (k:=j) (a:=S j) (s:=P.s me (S me)) (v:=ver)
   rw [w.2.1] at hr
   exact⟨hr,w.2.2.2 (raised_hold hr)⟩
 ·by_cases c:j=me
  ·subst c
   right
   rcases h1 with ⟨now,r,e⟩ | ⟨_,e⟩
   ·refine⟨rfl,now,r,?_⟩
    show (upd m.lk _ _ _).version=_
    rw [upd_me];exact e
   ·rw [e] at hst;cases hst
  ·left
   simp only [ot j c]
   have w:=wake_ph (P:=P) (k:=j) (a:=S j) (s:=P.s me (S me)) (v:=ver)
   exact⟨by rw [w.2.2.1];exact hst,w.2.2.2 (stored_hold hst)⟩
 ·show 0≤(upd m.lk _ _ s).version∧(upd m.lk _ _ s).version≤m.T
  by_cases c:s=P.s me (S me)
  ·subst c;rw [upd_me];exact hv
  ·rw [upd_lk _ c];exact h.v0 s
 ·have hs:(upd m.lk (P.s me (S me)) ⟨ver,false,0⟩ s).held=false:=hs
  show (upd m.lk _ _ s).owner=0
  by_cases c:s=P.s me (S me)
  ·subst c;rw [upd_me]
  ·rw [upd_lk _ c] at hs ⊢;exact h.free s hs
 ·have hs:(upd m.lk (P.s me (S me)) ⟨ver,false,0⟩ s).held=true:=hs
  show ∃i:Nat,i<3∧(upd m.lk (P.s me (S me)) ⟨ver,false,0⟩ s).owner=i∧_
  by_cases c:s=P.s me (S me)
  ·subst c;rw [upd_me] at hs;cases hs
  ·rw [upd_lk _ c] at hs ⊢
   obtain⟨i,g1,g2,g3,g4⟩:=h.heldBy s hs
   have gi:i≠me:=fun g=>by subst g;exact c g4.symm
   have w:=wake_ph (P:=P) (k:=i) (a:=S i) (s:=P.s me (S me)) (v:=ver)
   exact⟨i,g1,g2,by rw [ot i gi,w.1];exact g3,by rw [ot i gi,w.2.2.2 g3];exact g4⟩
 ·obtain⟨r1,r2,r3,r4,r5⟩:=hrun
  show Lo P _ _ me (if me=me then _ else _)
  rw [if_pos rfl]
  refine⟨r1,r2,r3,r4,?_⟩
  rcases he with he | he
  ·exact .inl he
  ·exact .inr (.inl he)
theorem Inv.take (h:Inv P m S)(hm:me<3){V:Int}(hp:hold (S me).ph=false)(hk:m.lk (P.s me (S me))=⟨V,false,0⟩)(hrun:Run P m me (S me))(hr:Rds P m S me (S me))(hl2:(S me).rd.length≤2) :
  Inv P { m with lk:=upd m.lk (P.s me (S me)) ⟨V,true,me⟩ } (upd S me { S me with ph:=.c2 V }):=by
 have hV:=h.v0 (P.s me (S me))
 rw [hk] at hV
 have hv:∀s,(upd m.lk (P.s me (S me)) ⟨V,true,me⟩ s).version=(m.lk s).version:=fun s=>by
  by_cases c:s=P.s me (S me)
  ·subst c;rw [upd_me,hk]
  ·rw [upd_lk _ c]
 have hno:=free_no h (s:=P.s me (S me)) (by rw [hk];exact Bool.false_ne_true)
 have hrn:∀now,raised (S me).ph≠some now:=fun now g=>by have:=raised_hold g;rw [hp] at this;cases this
 refine h.turn hm (me:=me) ⟨Int.le_refl _,fun s=>.inl (hv s),fun j hj now hr=>.inl ?_,fun j hj hst=>.inl ?_,fun c=>.inl rfl⟩ (fun j hj hjm=>.inl ⟨upd_ot hjm,fun x g=>by show (upd m.lk _ _ x.1).version=_;rw [hv];exact g⟩)
  (fun _ _=>rfl) (fun j hj hjm hj2=>upd_lk _ (hno j hj hj2)) (fun s=>?_) h.w0 (fun s hs=>?_) (fun s hs=>?_) ?_
 ·by_cases c:j=me
  ·subst c;rw [upd_me] at hr;cases hr
  ·rw [upd_ot c] at hr ⊢;exact⟨hr,rfl⟩
 ·by_cases c:j=me
  ·subst c;have:=stored_hold hst;rw [hp] at this;cases this
  ·rw [upd_ot c];exact⟨hst,rfl⟩
 ·show 0≤(upd m.lk _ _ s).version∧(upd m.lk _ _ s).version≤m.T
  rw [hv];exact h.v0 s
 ·have hs:(upd m.lk (P.s me (S me)) ⟨V,true,me⟩ s).held=false:=hs
  show (upd m.lk _ _ s).owner=0
  by_cases c:s=P.s me (S me)
  ·subst c;rw [upd_me] at hs;cases hs
  ·rw [upd_lk _ c] at hs ⊢;exact h.free s hs
 ·have hs:(upd m.lk (P.s me (S me)) ⟨V,true,me⟩ s).held=true:=hs
  show ∃i:Nat,i<3∧(upd m.lk (P.s me (S me)) ⟨V,true,me⟩ s).owner=i∧_
  by_cases c:s=P.s me (S me)
  ·subst c
   exact⟨me,hm,by rw [upd_me],by rw [upd_me];exact⟨rfl,rfl⟩⟩
  ·rw [upd_lk _ c] at hs ⊢
   obtain⟨i,g1,g2,g3,g4⟩:=h.heldBy s hs
   have gi:i≠me:=fun g=>by subst g;rw [hp] at g3;cases g3
   exact⟨i,g1,g2,by rw [upd_ot gi];exact⟨g3,g4⟩⟩
 ·rw [upd_me]
  exact⟨hrun,rds_me (a:=S me) hv (fun _ g=>upd_ot g) ⟨rfl,rfl,rfl,rfl,rfl⟩ hr,hl2,hV.1,hV.2,upd_me⟩
theorem Inv.store (h:Inv P m S)(hm:me<3){V now:Int}(hph:(S me).ph=.c5 V now) :
  Inv P { m with w:=updI m.w (P.pl me (S me)) (P.job me (S me).job).word } (upd S me { S me with ph:=.c6 V now }):=by
 have hl:=h.lo me hm
 simp only [Lo,hph] at hl
 obtain⟨r1,r2,r3,r4,r5,r6⟩:=hl
 have hho:hold (S me).ph=true:=by rw [hph];rfl
 have hol:=holder_is (h.lo me hm) hho
 refine h.turn hm (me:=me) ⟨Int.le_refl _,fun s=>.inl rfl,fun j hj now hr=>.inl ?_,fun j hj hst=>.inl ?_,fun c=>?_⟩ (fun j hj hjm=>.inl ⟨upd_ot hjm,fun x g=>g⟩)
  (fun _ _=>rfl) (fun j hj hjm hj2=>rfl) h.v0 (fun c=>?_) h.free (fun s hs=>?_) ?_
 ·by_cases c:j=me
  ·subst c;rw [upd_me] at hr ⊢
   cases hr
   exact⟨by rw [hph];rfl,rfl⟩
  ·rw [upd_ot c] at hr ⊢;exact⟨hr,rfl⟩
 ·by_cases c:j=me
  ·subst c;rw [upd_me];exact⟨rfl,rfl⟩
  ·rw [upd_ot c];exact⟨hst,rfl⟩
 ·by_cases g:c=P.pl me (S me)
  ·right
   rw [upd_me]
   exact⟨rfl,by rw [g];rfl⟩
  ·left;exact if_neg g
 ·show 0≤updI m.w _ _ c
  unfold updI
  split
  ·cases P.job me (S me).job <;> simp [Job.word]
  ·exact h.w0 c
 ·obtain⟨i,g1,g2,g3,g4⟩:=h.heldBy s hs
  refine⟨i,g1,g2,?_⟩
  by_cases c:i=me
  ·subst c;rw [upd_me];exact⟨rfl,g4⟩
  ·rw [upd_ot c];exact⟨g3,g4⟩
 ·rw [upd_me]
  exact⟨r1,r2,r3,r4,r5,r6⟩
theorem Inv.quiet (h:Inv P m S)(hm:me<3)(e1:m'.lk=m.lk)(e2:m'.w=m.w)(e3:m.T≤m'.T)(e4:∀j,j≠me→m'.e j=m.e j)(f1:hold (S me).ph=false)(f2:hold b.ph=false)(hl:Lo P m' (upd S me b) me b):Inv P m' (upd S me b) :=
 h.keep hm e1 e2 e3 e4 (by rw [f1,f2]) (fun g=>by rw [f2] at g;cases g) (fun now g=>by have:=raised_hold g;rw [f2] at this;cases this) (by
  cases e:stored b.ph with
  | true=>have:=stored_hold e;rw [f2] at this;cases this
  | false =>
   cases e2:stored (S me).ph with
   | true=>have:=stored_hold e2;rw [f1] at this;cases this
   | false=>rfl) hl
theorem pausing_lo (hj:a.job<P.n me)(he:m.e me=0)(p0:0≤p)(p8:p≤8):Lo P m S me (pausing a p)∧hold (pausing a p).ph=false:=by
 unfold pausing
 by_cases c:p=0
 ·rw [if_pos c];exact⟨⟨hj,he,rfl,rfl,rfl⟩,rfl⟩
 ·rw [if_neg c];exact⟨⟨hj,he,by omega,p8⟩,rfl⟩
theorem step_inv (hP:PrOk P)(hm:me<3)(h:Inv P m S)(p0:0≤p)(p8:p≤8):Inv P (stepT P me m (S me) p).1 (stepS P me S (stepT P me m (S me) p).2):=by
 have sp:=hP.sp
 have hlo:=h.lo me hm
 have uo:∀(b:AT) j,j≠me→upd S me b j=S j:=fun b j g=>upd_ot g
 have ue:∀(x:Int) j,j≠me→upd m.e me x j=m.e j:=fun x j g=>upd_ot g
 have same:Same (S me) (S me):=⟨rfl,rfl,rfl,rfl,rfl⟩
 cases e:(S me).ph
 case coming =>
  simp only [Lo,e] at hlo
  simp only [stepT,stepS,relOf,e]
  exact h.quiet hm rfl rfl (Int.le_refl _) (ue _) (by rw [e];rfl) rfl ⟨hlo.1,upd_me,hlo.2.2⟩
 case asking =>
  simp only [Lo,e] at hlo
  simp only [stepT,stepS,relOf,e]
  exact h.quiet hm rfl rfl (Int.le_refl _) (fun _ _=>rfl) (by rw [e];rfl) rfl ⟨hlo.1,hlo.2.1,h.t0,Int.le_refl _,hlo.2.2⟩
 case marking =>
  simp only [Lo,e] at hlo
  obtain⟨h1,h2,h3,h4,h5,h6,h7⟩:=hlo
  simp only [stepT,stepS,relOf,e]
  have hr:∀b:AT,b.job=(S me).job→b.st=(S me).st→b.q=P.sp→Run P { m with e:=upd m.e me ((S me).st+1) } me b:=fun b g1 g2 g3 =>
   ⟨by rw [g1];exact h1,by show 1≤upd m.e me _ me;rw [upd_me];omega,by rw [g2];exact h3,by rw [g2];exact h4,by rw [g3];exact sp⟩
  cases ht:(P.job me (S me).job).tk
  ·rw [if_neg (by decide)]
   exact h.quiet hm rfl rfl (Int.le_refl _) (ue _) (by rw [e];rfl) rfl ⟨hr _ rfl rfl rfl,fun x hx=>(by have hx:x∈(S me).rd:=hx;rw [h5] at hx;cases hx),by show (S me).rd.length≤2;rw [h5];decide⟩
  ·rw [if_pos rfl]
   exact h.quiet hm rfl rfl (Int.le_refl _) (ue _) (by rw [e];rfl) rfl ⟨hr _ rfl rfl rfl,ht,fun x hx=>(by have hx:x∈(S me).rd:=hx;rw [h5] at hx;cases hx),fun _=>h5,fun g=>(by have g:(S me).sec=true:=g;rw [h6] at g;cases g),h7⟩
 case f0 =>
  simp only [Lo,e] at hlo
  simp only [stepT,stepS,relOf,e]
  exact found_keep hP h hm (by rw [e];rfl) (by rw [e];rfl) hlo.1 hlo.2
 case f1 v =>
  simp only [Lo,e] at hlo
  obtain⟨h1,h2,h3⟩:=hlo
  simp only [stepT,stepS,relOf,e]
  exact h.quiet hm rfl rfl (Int.le_refl _) (fun _ _=>rfl) (by rw [e];rfl) rfl ⟨h1,fet_me (a:=S me) (fun _=>rfl) (fun _=>rfl) (uo _) ⟨rfl,rfl,rfl,rfl,rfl⟩ h2,seen_me (fun _=>rfl) (uo _) h3,fun _ _=>rfl,h.w0 _⟩
 case f2 v w =>
  simp only [Lo,e] at hlo
  obtain⟨h1,h2,h3,h4,h5⟩:=hlo
  simp only [stepT,stepS,relOf,e]
  by_cases c:m.lk (P.s me (S me))=⟨v,false,0⟩
  ·rw [if_pos c]
   have hf:¬(m.lk (P.s me (S me))).held=true:=by rw [c];exact Bool.false_ne_true
   have hw:m.w (P.pl me (S me))=w:=h4 (by show (m.lk (P.s me (S me))).version=v;rw [c]) fun j hj _ hst g=>free_no h hf j hj (stored_hold hst) g
   obtain⟨t1,t2,t3,t4,t5⟩:=h2
   obtain⟨r1,r2,r3,r4,r5⟩:=h1
   have hrd:∀x∈addRd (S me).rd (P.s me (S me)) v,SeenOk P m S me (S me).st x:=fun x hx=>by
    unfold addRd at hx
    split at hx
    ·exact t2 x hx
    ·rcases List.mem_append.1 hx with g | g
     ·exact t2 x g
     ·rw [List.mem_singleton.1 g];exact h3
   have hlen:(addRd (S me).rd (P.s me (S me)) v).length≤2:=by
    have:(S me).rd.length≤1:=by
     cases hs:(S me).sec
     ·rw [t3 hs];decide
     ·obtain⟨v',e1,_⟩:=t4 hs;rw [e1];exact Nat.le_refl _
    unfold addRd
    split
    ·omega
    ·simp;omega
   have hin:∃v',(P.s me (S me),v')∈addRd (S me).rd (P.s me (S me)) v∧(m.lk (P.s me (S me))).version=v':=by
    unfold addRd
    split
    ·rename_i g
     rw [List.any_eq_true] at g
     obtain⟨x,hx,g⟩:=g
     have g:x.1=P.s me (S me):=by simpa using g
     refine⟨x.2,by rw [←g];exact hx,?_⟩
     obtain⟨_,s2,s3,_⟩:=t2 x hx
     rw [g] at s3
     rcases s3 with s3 | s3
     ·exact s3
     ·obtain⟨_,q2,_,_⟩:=h3
      rw [c] at s3;simp only at s3 q2;omega
    ·exact⟨v,by simp,by rw [c]⟩
   have hst1:∀b:AT,b.rd=addRd (S me).rd (P.s me (S me)) v→b.st=(S me).st→Rds P m (upd S me b) me b:=fun b g1 g2 x hx=>by
    rw [g2];rw [g1] at hx;exact seen_me (fun _=>rfl) (uo _) (hrd x hx)
   unfold got
   by_cases cw:w≠0
   ·rw [if_pos cw]
    exact h.quiet hm rfl rfl (Int.le_refl _) (fun _ _=>rfl) (by rw [e];rfl) rfl ⟨⟨r1,r2,r3,r4,sp⟩,hst1 _ rfl rfl,hlen⟩
   ·rw [if_neg cw]
    have cw:w=0:=Decidable.byContradiction cw
    have hz:∀v',(m.lk (P.s me (S me))).version=v'→∀b:AT,KnowOk P m (upd S me b) me (P.pl me (S me)) v' 0:=fun v' _ b _ _=>by rw [hw,cw]
    cases hs:(S me).sec
    ·rw [if_neg (by decide)]
     have hrd0:=t3 hs
     refine h.quiet hm rfl rfl (Int.le_refl _) (fun _ _=>rfl) (by rw [e];rfl) rfl ⟨⟨r1,r2,r3,r4,sp⟩,t1,hst1 _ rfl rfl,fun g=>(by cases g),fun _=>⟨v,?_,?_⟩,t5⟩
     ·show addRd (S me).rd (P.s me (S me)) v=[(P.str (place (P.job me (S me).job) false),v)]
      rw [hrd0]
      show [(P.s me (S me),v)]=_
      unfold Pr.s Pr.pl;rw [hs]
     ·have:=hz v (by rw [c]) { S me with rd:=addRd (S me).rd (P.s me (S me)) v,q:=P.sp,ph:=.f0,sec:=true }
      unfold Pr.pl at this;rw [hs] at this
      exact this
    ·rw [if_pos rfl]
     refine h.quiet hm rfl rfl (Int.le_refl _) (fun _ _=>rfl) (by rw [e];rfl) rfl ⟨⟨r1,r2,r3,r4,sp⟩,?_⟩
     rw [if_pos rfl]
     refine⟨⟨t1,hst1 _ rfl rfl,hlen,fun sec=>?_⟩,fun g=>?_⟩
     ·cases sec
      ·obtain⟨v',e1,e2⟩:=t4 hs
       refine⟨v',?_,know_me (fun _=>rfl) (fun _=>rfl) (uo _) e2⟩
       show _∈addRd (S me).rd _ v
       unfold addRd
       rw [e1]
       split
       ·simp
       ·simp
      ·obtain⟨v',g1,g2⟩:=hin
       have hpl:P.pl me (S me)=place (P.job me (S me).job) true:=by unfold Pr.pl;rw [hs]
       have hz:=fun b=>hz v' g2 b
       rw [hpl] at hz
       refine⟨v',?_,hz _⟩
       unfold Pr.s at g1
       rw [hpl] at g1
       show _∈addRd (S me).rd _ v
       unfold Pr.s
       rw [hpl]
       exact g1
     ·have g:(S me).al=true:=g
      rw [t5] at g;cases g
  ·rw [if_neg c]
   exact found_keep hP h hm (by rw [e];rfl) (by rw [e];rfl) h1 h2
 case x0 blk =>
  simp only [Lo,e] at hlo
  obtain⟨h1,h2⟩:=hlo
  simp only [stepT,stepS,relOf,e]
  have hb:(if blk=true then Blk P m S me (S me)∧((S me).al=true→Stale m (S me)) else Fet P m S me (S me))→Rds P m S me (S me):=fun g=>by
   cases blk
   ·rw [if_neg (by decide)] at g;exact g.2.1
   ·rw [if_pos rfl] at g;exact g.1.2.1
  have hrd:=hb h2
  by_cases c:(S me).rd=[]
  ·rw [if_pos c]
   refine h.quiet hm rfl rfl (Int.le_refl _) (fun _ _=>rfl) (by rw [e];rfl) (by unfold extended;split <;> rfl) ?_
   have hblk:blk=false:=by
    cases blk
    ·rfl
    ·rw [if_pos rfl] at h2
     obtain⟨v,g,_⟩:=h2.1.2.2.2 true
     rw [c] at g;cases g
   subst hblk
   rw [if_neg (by decide)] at h2
   refine ext_lo hP (a:=S me) h1.2.2.2.1 (Int.le_refl _) h1 (fun x hx=>by rw [c] at hx;cases hx) ?_
   rw [if_neg (by decide)]
   exact fet_me (a:=S me) (fun _=>rfl) (fun _=>rfl) (uo _) ⟨rfl,rfl,rfl,rfl,rfl⟩ h2
  ·rw [if_neg c]
   have hl:0<(S me).rd.length:=by
    cases g:(S me).rd with
    | nil=>exact absurd g c
    | cons x l=>simp
   refine h.quiet hm rfl rfl (Int.le_refl _) (fun _ _=>rfl) (by rw [e];rfl) rfl ⟨h1,hl,h1.2.2.2.1,Int.le_refl _,fun k x hk _=>by omega,?_⟩
   cases blk
   ·rw [if_neg (by decide)] at h2 ⊢
    exact fet_me (a:=S me) (fun _=>rfl) (fun _=>rfl) (uo _) ⟨rfl,rfl,rfl,rfl,rfl⟩ h2
   ·rw [if_pos rfl] at h2 ⊢
    exact⟨blk_me (a:=S me) (fun _=>rfl) (fun _=>rfl) (uo _) ⟨rfl,rfl,rfl,rfl,rfl⟩ h2.1,h2.2,fun _ k x hk _=>by omega⟩
 case x1 blk T j =>
  simp only [Lo,e] at hlo
  obtain⟨h1,h2,h3,h4,h5,h6⟩:=hlo
  obtain⟨r1,r2,r3,r4,r5,r6⟩:=h1
  simp only [stepT,stepS,relOf,e]
  have hj:(S me).rd[j]? = some (rdAt (S me) j):=by
   unfold rdAt
   rw [List.getD_eq_getElem?_getD,List.getElem?_eq_getElem h2];rfl
  have hjm:=List.mem_of_getElem? hj
  have hstay:∀b:AT,b.ph=.x1 blk T j→Same (S me) b→0≤b.q→b.q≤4→Inv P m (upd S me b):=fun b g1 g2 q0 q4=>by
   refine h.quiet hm rfl rfl (Int.le_refl _) (fun _ _=>rfl) (by rw [e];rfl) (by rw [g1];rfl) ?_
   simp only [Lo,g1]
   refine⟨⟨by rw [g2.job];exact r1,r2,by rw [g2.st];exact r3,by rw [g2.st];exact r4,q0,q4⟩,by rw [g2.rd];exact h2,by rw [g2.st];exact h3,h4,fun k x hk hx=>seen_me (fun _=>rfl) (uo _) (h5 k x hk (by rw [←g2.rd];exact hx)),?_⟩
   cases blk
   ·rw [if_neg (by decide)] at h6 ⊢
    exact fet_me (a:=S me) (fun _=>rfl) (fun _=>rfl) (uo _) g2 h6
   ·rw [if_pos rfl] at h6 ⊢
    refine⟨blk_me (a:=S me) (fun _=>rfl) (fun _=>rfl) (uo _) g2 h6.1,?_,?_⟩
    ·unfold Stale;rw [g2.rd,g2.al];exact h6.2.1
    ·rw [g2.rd,g2.al];exact h6.2.2
  by_cases c:(m.lk (rdAt (S me) j).1).held=true
  ·rw [if_pos c]
   rcases wait_cases (S me) me (m.lk (rdAt (S me) j).1).owner (.go 5 (m.lk (rdAt (S me) j).1).owner) with ⟨e1,g⟩ | ⟨e1,g,g2⟩ | ⟨e1,g,g2⟩
   ·rw [e1];exact hstay _ e ⟨rfl,rfl,rfl,rfl,rfl⟩ r5 r6
   ·rw [e1];exact hstay _ e ⟨rfl,rfl,rfl,rfl,rfl⟩ g (by show (S me).q-1≤4;omega)
   ·rw [e1]
    have:=held_lt h (by rw [e];rfl) c g2
    exact h.quiet hm rfl rfl (Int.le_refl _) (fun _ _=>rfl) (by rw [e];rfl) rfl ⟨r1,r2,r3,r4,.inr (.inl ⟨rfl,.inr this⟩)⟩
  ·rw [if_neg c]
   by_cases c2:(m.lk (rdAt (S me) j).1).version≠(rdAt (S me) j).2
   ·rw [if_pos c2]
    exact h.quiet hm rfl rfl (Int.le_refl _) (fun _ _=>rfl) (by rw [e];rfl) rfl ⟨r1,r2,r3,r4,.inr (.inl ⟨rfl,.inl rfl⟩)⟩
   ·rw [if_neg c2]
    have c2:(m.lk (rdAt (S me) j).1).version=(rdAt (S me) j).2:=Decidable.byContradiction c2
    have hrds:Rds P m S me (S me):=by
     cases blk
     ·rw [if_neg (by decide)] at h6;exact h6.2.1
     ·rw [if_pos rfl] at h6;exact h6.1.2.1
    have hnew:SeenOk P m S me T (rdAt (S me) j):=by
     have:=free_seen (me:=me) h (s:=(rdAt (S me) j).1) (st:=T) c (by have:=(hrds _ hjm).2.1;omega)
     rw [c2] at this
     exact this
    have hupto:∀k x,k<j+1→(S me).rd[k]? = some x→SeenOk P m S me T x:=fun k x hk hx=>by
     by_cases g:k=j
     ·subst g;rw [hj] at hx;cases hx;exact hnew
     ·exact h5 k x (by omega) hx
    have hcur:(∀k x,k<j→(S me).rd[k]? = some x→Cur m x)→∀k x,k<j+1→(S me).rd[k]? = some x→Cur m x:=fun g k x hk hx=>by
     by_cases g2:k=j
     ·subst g2;rw [hj] at hx;cases hx;exact c2
     ·exact g k x (by omega) hx
    by_cases c3:j+1=(S me).rd.length
    ·rw [if_pos c3]
     refine h.quiet hm rfl rfl (Int.le_refl _) (fun _ _=>rfl) (by rw [e];rfl) (by unfold extended;split <;> rfl) ?_
     have hall:∀x∈(S me).rd,∃k,k<j+1∧(S me).rd[k]? = some x:=fun x hx=>by
      obtain⟨k,hk,hx⟩:=List.getElem_of_mem hx
      exact⟨k,by omega,by rw [List.getElem?_eq_getElem hk,hx]⟩
     refine ext_lo hP (a:=S me) h3 h4 ⟨r1,r2,r3,r4,r5,r6⟩ (fun x hx=>?_) ?_
     ·obtain⟨k,g1,g2⟩:=hall x hx
      exact seen_me (fun _=>rfl) (uo _) (hupto k x g1 g2)
     ·cases blk
      ·rw [if_neg (by decide)] at h6 ⊢
       exact fet_me (a:=S me) (fun _=>rfl) (fun _=>rfl) (uo _) ⟨rfl,rfl,rfl,rfl,rfl⟩ h6
      ·rw [if_pos rfl] at h6 ⊢
       refine⟨blk_me (a:=S me) (fun _=>rfl) (fun _=>rfl) (uo _) ⟨rfl,rfl,rfl,rfl,rfl⟩ h6.1,h6.2.1,fun g x hx=>?_⟩
       obtain⟨k,g1,g2⟩:=hall x hx
       exact hcur (h6.2.2 g) k x g1 g2
    ·rw [if_neg c3]
     refine h.quiet hm rfl rfl (Int.le_refl _) (fun _ _=>rfl) (by rw [e];rfl) rfl ⟨⟨r1,r2,r3,r4,r5,r6⟩,by show j+1<(S me).rd.length;omega,h3,h4,fun k x hk hx=>seen_me (fun _=>rfl) (uo _) (hupto k x hk hx),?_⟩
     cases blk
     ·rw [if_neg (by decide)] at h6 ⊢
      exact fet_me (a:=S me) (fun _=>rfl) (fun _=>rfl) (uo _) ⟨rfl,rfl,rfl,rfl,rfl⟩ h6
     ·rw [if_pos rfl] at h6 ⊢
      exact⟨blk_me (a:=S me) (fun _=>rfl) (fun _=>rfl) (uo _) ⟨rfl,rfl,rfl,rfl,rfl⟩ h6.1,h6.2.1,fun g=>hcur (h6.2.2 g)⟩
 case c0 =>
  simp only [Lo,e] at hlo
  obtain⟨⟨r1,r2,r3,r4,r5,r6⟩,h2,h3⟩:=hlo
  simp only [stepT,stepS,relOf,e]
  have hr:∀b,Same (S me) b→Rds P m (upd S me b) me b:=fun b g=>rds_me (a:=S me) (fun _=>rfl) (uo _) g h2
  by_cases c:(m.lk (P.s me (S me))).held=true
  ·rw [if_pos c]
   rcases wait_cases (S me) me (m.lk (P.s me (S me))).owner (.go 5 (m.lk (P.s me (S me))).owner) with ⟨e1,g⟩ | ⟨e1,g,g2⟩ | ⟨e1,g,g2⟩
   ·rw [e1]
    refine h.quiet hm rfl rfl (Int.le_refl _) (fun _ _=>rfl) (by rw [e];rfl) (by rw [e];rfl) ?_
    simp only [Lo,e]
    exact⟨⟨r1,r2,r3,r4,r5,r6⟩,hr _ ⟨rfl,rfl,rfl,rfl,rfl⟩,h3⟩
   ·rw [e1]
    refine h.quiet hm rfl rfl (Int.le_refl _) (fun _ _=>rfl) (by rw [e];rfl) (by show hold (S me).ph=false;rw [e];rfl) ?_
    simp only [Lo,e]
    exact⟨⟨r1,r2,r3,r4,g,by show (S me).q-1≤4;omega⟩,hr _ ⟨rfl,rfl,rfl,rfl,rfl⟩,h3⟩
   ·rw [e1]
    have:=held_lt h (by rw [e];rfl) c g2
    exact h.quiet hm rfl rfl (Int.le_refl _) (fun _ _=>rfl) (by rw [e];rfl) rfl ⟨r1,r2,r3,r4,.inr (.inl ⟨rfl,.inr this⟩)⟩
  ·rw [if_neg c]
   exact h.quiet hm rfl rfl (Int.le_refl _) (fun _ _=>rfl) (by rw [e];rfl) rfl ⟨⟨r1,r2,r3,r4,r5,r6⟩,hr _ ⟨rfl,rfl,rfl,rfl,rfl⟩,h3,(h.v0 _).1,(h.v0 _).2⟩
 case c1 V =>
  simp only [Lo,e] at hlo
  obtain⟨h1,h2,h3,h4,h5⟩:=hlo
  simp only [stepT,stepS,relOf,e]
  by_cases c:m.lk (P.s me (S me))=⟨V,false,0⟩
  ·simp only [if_pos c]
   exact h.take hm (by rw [e];rfl) c h1 h2 h3
  ·simp only [if_neg c]
   exact h.quiet hm rfl rfl (Int.le_refl _) (fun _ _=>rfl) (by rw [e];rfl) rfl ⟨h1,rds_me (a:=S me) (fun _=>rfl) (uo _) ⟨rfl,rfl,rfl,rfl,rfl⟩ h2,h3⟩
 case c5 V now =>
  simp only [stepT,stepS,relOf,e]
  exact h.store hm e
 case c6 V now =>
  simp only [Lo,e] at hlo
  obtain⟨h1,h2,h3,h4,h5,h6⟩:=hlo
  simp only [stepT,stepS,relOf,e]
  exact h.give hm (e:=2) (by rw [e];rfl) h1 ⟨by omega,h6⟩ (.inl rfl) (.inl ⟨now,by rw [e];rfl,rfl⟩)
 case c7 V b =>
  simp only [Lo,e] at hlo
  obtain⟨h1,h2,h3,h4,h5,h6⟩:=hlo
  simp only [stepT,stepS,relOf,e]
  exact h.give hm (e:=5) (by rw [e];rfl) h1 ⟨h3,h4⟩ (.inr ⟨rfl,h6⟩) (.inr ⟨by rw [h5],by rw [e];rfl⟩)
 case wait =>
  simp only [stepT,stepS,relOf,e]
  rw [show upd S me (S me)=S from funext fun j=>by unfold upd;split;subst_vars;rfl;rfl]
  exact h
 case fin =>
  simp only [stepT,stepS,relOf,e]
  rw [show upd S me (S me)=S from funext fun j=>by unfold upd;split;subst_vars;rfl;rfl]
  exact h
 case c2 V =>
  simp only [Lo,e] at hlo
  obtain⟨h1,h2,h3,h4,h5,h6⟩:=hlo
  simp only [stepT,stepS,relOf,e]
  exact h.keep hm rfl rfl (Int.le_refl _) (fun _ _=>rfl) (by rw [e];rfl) (fun _=>rfl) (fun now g=>by cases g) (by rw [e];rfl) ⟨h1,rds_me (a:=S me) (fun _=>rfl) (uo _) ⟨rfl,rfl,rfl,rfl,rfl⟩ h2,h3,h4,h5,h6,Int.le_refl _,h1.2.2.2.1⟩
 case c3 V now =>
  simp only [Lo,e] at hlo
  obtain⟨h1,h2,h3,h4,h5,h6,h7,h8⟩:=hlo
  obtain⟨r1,r2,r3,r4,r5,r6⟩:=h1
  simp only [stepT,stepS,relOf,e]
  by_cases c:m.T=now
  ·simp only [if_pos c]
   have hr:∀b:AT,Rds P { m with T:=now+1 } (upd S me b) me (S me):=fun b=>rds_me (a:=S me) (fun _=>rfl) (uo _) ⟨rfl,rfl,rfl,rfl,rfl⟩ h2
   have hrun:Run P { m with T:=now+1 } me (S me):=⟨r1,r2,r3,by show (S me).st≤now+1;omega,r5,r6⟩
   by_cases c2:now=(S me).st
   ·simp only [if_pos c2]
    exact h.keep hm rfl rfl (by show m.T≤now+1;omega) (fun _ _=>rfl) (by rw [e];rfl) (fun _=>rfl) (fun now' g=>by cases g;right;omega) (by rw [e];rfl) ⟨hrun,h3,h4,h5,h6,Int.le_refl _⟩
   ·simp only [if_neg c2]
    have:=fun b=>prove_lo (m:={ m with T:=now+1 }) (S:=upd S me b) (V:=V) (now:=now) (i:=0) hrun (hr b) h3 h4 h5 h6 (Int.le_refl _) h8
    simp only [List.drop_zero] at this
    obtain⟨_,g2,g3,g4⟩:=this (S me)
    exact h.keep hm rfl rfl (by show m.T≤now+1;omega) (fun _ _=>rfl) (by rw [e];exact g2) (fun _=>rfl) (fun now' g=>by right;have:=g4 now' g;omega) (by rw [e];exact g3) (this _).1
  ·simp only [if_neg c]
   exact h.keep hm rfl rfl (Int.le_refl _) (fun _ _=>rfl) (by rw [e];rfl) (fun _=>rfl) (fun now g=>by cases g) (by rw [e];rfl) ⟨⟨r1,r2,r3,r4,r5,r6⟩,rds_me (a:=S me) (fun _=>rfl) (uo _) ⟨rfl,rfl,rfl,rfl,rfl⟩ h2,h3,h4,by omega,h6⟩
 case c4 V now j =>
  simp only [Lo,e] at hlo
  obtain⟨⟨r1,r2,r3,r4,r5,r6⟩,h2,h3,h4,h5,h6,h7,h8,h9,h10⟩:=hlo
  simp only [stepT,stepS,relOf,e]
  have hr:∀b,Rds P m (upd S me b) me (S me):=fun b=>rds_me (a:=S me) (fun _=>rfl) (uo _) ⟨rfl,rfl,rfl,rfl,rfl⟩ h2
  have hr2:∀b,Same (S me) b→Rds P m (upd S me b) me b:=fun b g=>rds_me (a:=S me) (fun _=>rfl) (uo _) g h2
  by_cases c:(m.lk (rdAt (S me) j).1).held=true
  ·rw [if_pos c]
   obtain⟨i,g1,g2,g3,g4⟩:=h.heldBy _ c
   have gi:i≠me:=fun g=>by subst g;exact h10 g4.symm
   rcases wait_cases (S me) me (m.lk (rdAt (S me) j).1).owner (.c7 V (m.lk (rdAt (S me) j).1).owner) with ⟨e1,g⟩ | ⟨e1,g,g2⟩ | ⟨e1,g,g2⟩
   ·rw [e1]
    refine h.keep hm rfl rfl (Int.le_refl _) (fun _ _=>rfl) rfl (fun _=>rfl) (fun now g=>.inl g) rfl ?_
    simp only [Lo,e]
    exact⟨⟨r1,r2,r3,r4,r5,r6⟩,hr _,h3,h4,h5,h6,h7,h8,h9,h10⟩
   ·rw [e1]
    refine h.keep hm rfl rfl (Int.le_refl _) (fun _ _=>rfl) rfl (fun _=>rfl) (fun now g=>.inl g) rfl ?_
    simp only [Lo,e]
    exact⟨⟨r1,r2,r3,r4,g,by show (S me).q-1≤4;omega⟩,hr2 _ ⟨rfl,rfl,rfl,rfl,rfl⟩,h3,h4,h5,h6,h7,h8,h9,h10⟩
   ·rw [e1]
    exact h.keep hm rfl rfl (Int.le_refl _) (fun _ _=>rfl) (by rw [e];rfl) (fun _=>rfl) (fun now g=>by cases g) (by rw [e];rfl) ⟨⟨r1,r2,r3,r4,r5,r6⟩,h3,h4,by omega,h6,.inr ⟨by omega,by omega⟩⟩
  ·rw [if_neg c]
   by_cases c2:(m.lk (rdAt (S me) j).1).version≠(rdAt (S me) j).2
   ·rw [if_pos c2]
    exact h.keep hm rfl rfl (Int.le_refl _) (fun _ _=>rfl) (by rw [e];rfl) (fun _=>rfl) (fun now g=>by cases g) (by rw [e];rfl) ⟨⟨r1,r2,r3,r4,r5,r6⟩,h3,h4,by omega,h6,.inl rfl⟩
   ·rw [if_neg c2]
    have:=fun b=>prove_lo (m:=m) (S:=upd S me b) (V:=V) (now:=now) (i:=j+1) ⟨r1,r2,r3,r4,r5,r6⟩ (hr b) h3 h4 h5 h6 h7 h8
    obtain⟨_,g2,g3,g4⟩:=this (S me)
    exact h.keep hm rfl rfl (Int.le_refl _) (fun _ _=>rfl) (by rw [e];exact g2) (fun _=>rfl) (fun now' g=>by left;rw [e,g4 now' g];rfl) (by rw [e];exact g3) (this _).1
 case go e' b =>
  simp only [Lo,e] at hlo
  obtain⟨h1,h2,h3,h4,h5⟩:=hlo
  simp only [stepT,stepS,relOf,e]
  have hme:({ m with e:=upd m.e me 0 }:AM).e me=0:=upd_me
  unfold ended
  rcases h5 with h5 | ⟨h5,h6⟩ | ⟨h5,h6,h7,h8⟩
  ·rw [if_neg (by omega),if_neg (by omega)]
   by_cases c:(S me).job+1=P.n me
   ·rw [if_pos c]
    exact h.quiet hm rfl rfl (Int.le_refl _) (ue _) (by rw [e];rfl) rfl ⟨c,hme⟩
   ·rw [if_neg c]
    exact h.quiet hm rfl rfl (Int.le_refl _) (ue _) (by rw [e];rfl) rfl ⟨by show (S me).job+1<P.n me;omega,hme,rfl,rfl,rfl⟩
  ·rw [if_pos h5]
   by_cases c:0≤b∧b<3
   ·rw [if_pos c]
    exact h.quiet hm rfl rfl (Int.le_refl _) (ue _) (by rw [e];rfl) rfl ⟨h1,hme,by omega,by omega⟩
   ·rw [if_neg c]
    have:=fun S'=>pausing_lo (P:=P) (m:={ m with e:=upd m.e me 0 }) (S:=S') (a:=S me) (p:=p) h1 hme p0 p8
    exact h.quiet hm rfl rfl (Int.le_refl _) (ue _) (by rw [e];rfl) (this S).2 (this _).1
  ·rw [if_neg (by omega),if_pos h5]
   cases hal:(S me).al
   ·rw [if_neg (by decide)]
    exact h.quiet hm rfl rfl (Int.le_refl _) (ue _) (by rw [e];rfl) rfl ⟨h1,hme,h3,h4,blk_me (a:=S me) (fun _=>rfl) (fun _=>rfl) (uo _) ⟨rfl,rfl,rfl,rfl,hal.symm⟩ h6,h8 hal⟩
   ·rw [if_pos rfl]
    exact h.quiet hm rfl rfl (Int.le_refl _) (ue _) (by rw [e];rfl) rfl ⟨h1,hme,rfl,rfl,rfl⟩
 case yld b since y =>
  simp only [Lo,e] at hlo
  obtain⟨h1,h2,h3,h4⟩:=hlo
  simp only [stepT,stepS,relOf,e]
  split
  ·exact h.quiet hm rfl rfl (Int.le_refl _) (fun _ _=>rfl) (by rw [e];rfl) rfl ⟨h1,h2,h3,h4⟩
  ·have:=fun S'=>pausing_lo (P:=P) (m:=m) (S:=S') (a:=S me) (p:=p) h1 h2 p0 p8
   exact h.quiet hm rfl rfl (Int.le_refl _) (fun _ _=>rfl) (by rw [e];rfl) (this S).2 (this _).1
 case pause p' =>
  simp only [Lo,e] at hlo
  obtain⟨h1,h2,h3,h4⟩:=hlo
  simp only [stepT,stepS,relOf,e]
  by_cases c:p'=1
  ·rw [if_pos c]
   exact h.quiet hm rfl rfl (Int.le_refl _) (fun _ _=>rfl) (by rw [e];rfl) rfl ⟨h1,h2,rfl,rfl,rfl⟩
  ·rw [if_neg c]
   exact h.quiet hm rfl rfl (Int.le_refl _) (fun _ _=>rfl) (by rw [e];rfl) rfl ⟨h1,h2,by omega,by omega⟩
end
def staleB (m:AM)(rd:List (Nat×Int)):Bool:=rd.any fun x=>!decide ((m.lk x.1).version=x.2)
def live:Ph→Bool
 | .f0=>true | .f1 _=>true | .f2 _ _=>true | .x0 _=>true | .x1 _ _ _=>true | .c0=>true | .c1 _=>true | .c2 _=>true | .c3 _ _=>true | .c4 _ _ _=>true | .c5 _ _=>true | .c6 _ _=>true
 | .go e _=>decide (e=3)
 | _=>false
def is7:Ph→Bool
 | .c7 _ _=>true
 | _=>false
def sN (m:AM)(a:AT):Int:=if is7 a.ph=true∨(live a.ph=true∧staleB m a.rd=true) then 1 else 0
def hN (a:AT):Int:=if hold a.ph=true then 1 else 0
def way (m:AM)(a:AT)(j:Nat):Bool:=match a.ph with
 | .go e b=>decide (e=5) && decide (b=j)
 | .c7 _ b=>decide (b=j)
 | .yld b since y=>decide (b=j) && (!y || decide (since=m.e j))
 | _=>false
def kap (m:AM)(a:AT)(j:Nat)(b:AT):Int:=if hold b.ph=true∧way m a j=false then 1 else 0
def off (a:AT):Int:=if a.sec then 0 else 28
def rank (P:Pr)(m:AM)(i:Nat)(a:AT):Int:=match a.ph with
 | .wait=>0
 | .fin=>0
 | .go e b=>if e=3 then 1 else if e=5 then (if 0≤b then 73 else 70) else 62
 | .x1 blk T j=>if blk=true then 2+5*((a.rd.length:Int)-j-1)+a.q else if (m.lk (P.s i a)).version≤T then 20+a.q else 31+a.q
 | .x0 blk=>if blk=true then 12 else off a+25
 | .c0=>2+a.q
 | .c1 V=>if m.lk (P.s i a)=⟨V,false,0⟩ then 1 else 8+a.q
 | .f2 v _=>off a+(if m.lk (P.s i a)=⟨v,false,0⟩ then 13 else 31+a.q)
 | .f1 v=>off a+(if m.lk (P.s i a)=⟨v,false,0⟩ then 14 else 36+a.q)
 | .f0=>off a+(if (m.lk (P.s i a)).version≤a.st then 15+a.q else 26+a.q)
 | .marking=>59
 | .asking=>60
 | .coming=>61
 | .pause p=>61+p
 | .yld _ _ y=>if y=true then 71 else 72
 | .c2 _=>21
 | .c3 _ now=>if m.T=now then 20 else 22
 | .c4 _ _ j=>4+5*((a.rd.length:Int)-j-1)+a.q
 | .c5 _ _=>3
 | .c6 _ _=>2
 | .c7 _ _=>1
def rN (P:Pr)(i:Nat)(a:AT):Int:=(P.n i:Int)-a.job-(match a.ph with | .go e _=>if e=2 then 1 else 0 | _=>0)
def kN (m:AM)(S:Nat→AT)(i:Nat):Int:=if i=0 then 0 else if i=1 then kap m (S 1) 0 (S 0) else kap m (S 2) 0 (S 0)+kap m (S 2) 1 (S 1)
def lam (P:Pr)(m:AM)(S:Nat→AT)(i:Nat):Int:=rank P m i (S i)+69*sN m (S i)+72*kN m S i
def evs (P:Pr)(m:AM)(S:Nat→AT):Int :=
 14*(rN P 0 (S 0)+rN P 1 (S 1)+rN P 2 (S 2))+8*(sN m (S 0)+kN m S 0)+4*(sN m (S 1)+kN m S 1)+2*(sN m (S 2)+kN m S 2)-7*hN (S 0)-3*hN (S 1)-hN (S 2)
def mu (P:Pr)(m:AM)(S:Nat→AT):Int:=700*evs P m S+lam P m S 0+lam P m S 1+lam P m S 2
theorem rank_le {P:Pr}{m:AM}{S:Nat→AT}{i:Nat}{a:AT}(h:Lo P m S i a):0≤rank P m i a∧rank P m i a≤73:=by
 unfold rank
 have ho:0≤off a∧off a≤28:=by unfold off;split <;> omega
 cases e:a.ph
 case x1 blk T j =>
  cases blk <;> simp only [Lo,e,Run,Blk,Bool.false_eq_true,if_true,if_false] at h ⊢ <;> (repeat' split) <;> omega
 all_goals (simp only [Lo,e,Run] at h ⊢ <;> (repeat' split) <;> omega)
section
variable {P:Pr}{m m':AM}{S S':Nat→AT}{me k:Nat}{a b:AT}{p:Int}
theorem sN_le:0≤sN m a∧sN m a≤1:=by unfold sN;split <;> omega
theorem hN_le:0≤hN a∧hN a≤1:=by unfold hN;split <;> omega
theorem kap_le {j:Nat}:0≤kap m a j b∧kap m a j b≤1:=by unfold kap;split <;> omega
theorem kN_0:kN m S 0=0:=rfl
theorem kN_1:kN m S 1=kap m (S 1) 0 (S 0):=rfl
theorem kN_2:kN m S 2=kap m (S 2) 0 (S 0)+kap m (S 2) 1 (S 1):=rfl
theorem lam_le (h:Inv P m S):0≤lam P m S 0+lam P m S 1+lam P m S 2∧lam P m S 0+lam P m S 1+lam P m S 2≤642:=by
 have a0:=rank_le (h.lo 0 (by decide))
 have a1:=rank_le (h.lo 1 (by decide))
 have a2:=rank_le (h.lo 2 (by decide))
 have b0:=sN_le (m:=m) (a:=S 0)
 have b1:=sN_le (m:=m) (a:=S 1)
 have b2:=sN_le (m:=m) (a:=S 2)
 have c1:=kap_le (m:=m) (a:=S 1) (j:=0) (b:=S 0)
 have c2:=kap_le (m:=m) (a:=S 2) (j:=0) (b:=S 0)
 have c3:=kap_le (m:=m) (a:=S 2) (j:=1) (b:=S 1)
 unfold lam
 rw [kN_0,kN_1,kN_2]
 omega
theorem mu_event (h:Inv P m S)(h':Inv P m' S')(hd:evs P m' S'+1≤evs P m S):mu P m' S'<mu P m S:=by
 have:=lam_le h
 have:=lam_le h'
 unfold mu
 omega
theorem mu_drop (hm:me<3)(hS:∀j,j≠me→S' j=S j)(hs:∀j,j<3→j≠me→sN m' (S j)=sN m (S j))(hr:∀j,j<3→j≠me→rank P m' j (S j)=rank P m j (S j))(hk:∀j,j<3→j≠me→kN m' S' j=kN m S j)
  (r:rN P me (S' me)≤rN P me (S me)) (hh:hN (S' me)=hN (S me)) (sk:sN m' (S' me)+kN m' S' me≤sN m (S me)+kN m S me) (d:rank P m' me (S' me)+69*sN m' (S' me)+72*kN m' S' me<rank P m me (S me)+69*sN m (S me)+72*kN m S me):mu P m' S'<mu P m S:=by
 have hc:me=0∨me=1∨me=2:=by omega
 unfold mu evs lam
 rcases hc with rfl | rfl | rfl
 ·have e1:=hS 1 (by decide);have e2:=hS 2 (by decide)
  have s1:=hs 1 (by decide) (by decide);have s2:=hs 2 (by decide) (by decide)
  have r1:=hr 1 (by decide) (by decide);have r2:=hr 2 (by decide) (by decide)
  have k1:=hk 1 (by decide) (by decide);have k2:=hk 2 (by decide) (by decide)
  rw [e1,e2,s1,s2,r1,r2,k1,k2]
  omega
 ·have e1:=hS 0 (by decide);have e2:=hS 2 (by decide)
  have s1:=hs 0 (by decide) (by decide);have s2:=hs 2 (by decide) (by decide)
  have r1:=hr 0 (by decide) (by decide);have r2:=hr 2 (by decide) (by decide)
  have k1:=hk 0 (by decide) (by decide);have k2:=hk 2 (by decide) (by decide)
  rw [e1,e2,s1,s2,r1,r2,k1,k2]
  omega
 ·have e1:=hS 0 (by decide);have e2:=hS 1 (by decide)
  have s1:=hs 0 (by decide) (by decide);have s2:=hs 1 (by decide) (by decide)
  have r1:=hr 0 (by decide) (by decide);have r2:=hr 1 (by decide) (by decide)
  have k1:=hk 0 (by decide) (by decide);have k2:=hk 1 (by decide) (by decide)
  rw [e1,e2,s1,s2,r1,r2,k1,k2]
  omega
theorem way_e {j:Nat}(h:m'.e j=m.e j):way m' a j=way m a j:=by
 unfold way
 cases a.ph <;> simp only [h]
theorem kap_eq {j:Nat}{a' b':AT}(h1:hold b'.ph=hold b.ph)(h2:hold b.ph=true→way m' a' j=way m a j):kap m' a' j b'=kap m a j b:=by
 unfold kap
 rw [h1]
 by_cases c:hold b.ph=true
 ·rw [h2 c]
 ·rw [if_neg (fun g=>c g.1),if_neg (fun g=>c g.1)]
theorem kN_ot (hm:me<3)(hS:∀j,j≠me→S' j=S j)(hh:hold (S' me).ph=hold (S me).ph)(he:∀j,j≠me→m'.e j=m.e j)(hem:hold (S me).ph=true→m'.e me=m.e me){j:Nat}(hj:j<3)(hjm:j≠me):kN m' S' j=kN m S j:=by
 have key:∀x y:Nat,x≠me→kap m' (S' x) y (S' y)=kap m (S x) y (S y):=fun x y hx=>by
  rw [hS x hx]
  by_cases c:y=me
  ·subst c
   exact kap_eq hh (fun g=>way_e (hem g))
  ·rw [hS y c]
   exact kap_eq rfl (fun _=>way_e (he y c))
 have hc:j=0∨j=1∨j=2:=by omega
 rcases hc with rfl | rfl | rfl
 ·rfl
 ·rw [kN_1,kN_1,key 1 0 hjm]
 ·rw [kN_2,kN_2,key 2 0 hjm,key 2 1 hjm]
theorem kN_me (hm:me<3)(hS:∀j,j≠me→S' j=S j)(hw:∀j,j<me→hold (S j).ph=true→way m' (S' me) j=way m (S me) j):kN m' S' me=kN m S me:=by
 have hc:me=0∨me=1∨me=2:=by omega
 rcases hc with rfl | rfl | rfl
 ·rfl
 ·rw [kN_1,kN_1,hS 0 (by decide),kap_eq rfl (hw 0 (by decide))]
 ·rw [kN_2,kN_2,hS 0 (by decide),hS 1 (by decide),kap_eq rfl (hw 0 (by decide)),kap_eq rfl (hw 1 (by decide))]
theorem kN_way (hm:me<3)(hS:∀j,j≠me→S' j=S j){o:Nat}(ho:o<me)(hh:hold (S o).ph=true)(h0:∀j,j<me→way m (S me) j=false)(h1:∀j,j<me→way m' (S' me) j=decide (j=o)):kN m' S' me+1=kN m S me:=by
 have a1:∀j,j<me→kap m (S me) j (S j)=if hold (S j).ph=true then 1 else 0:=fun j hj=>by unfold kap;rw [h0 j hj];simp
 have a2:∀j,j<me→kap m' (S' me) j (S' j)=if hold (S j).ph=true∧j≠o then 1 else 0:=fun j hj=>by unfold kap;rw [h1 j hj,hS j (by omega)];simp
 have hc:me=0∨me=1∨me=2:=by omega
 rcases hc with rfl | rfl | rfl
 ·omega
 ·have:o=0:=by omega
  subst this
  rw [kN_1,kN_1,a1 0 (by decide),a2 0 (by decide),if_pos hh,if_neg (by simp)];rfl
 ·rw [kN_2,kN_2,a1 0 (by decide),a2 0 (by decide),a1 1 (by decide),a2 1 (by decide)]
  have:o=0∨o=1:=by omega
  rcases this with rfl | rfl
  ·rw [if_pos hh,if_neg (by simp)];split <;> simp_all
  ·rw [if_pos hh,if_neg (c:=hold (S 1).ph=true∧1≠1) (by simp)];split <;> simp_all
theorem sN_m (e1:m'.lk=m.lk):sN m' a=sN m a:=by unfold sN staleB;rw [e1]
theorem rank_m {i:Nat}(e1:m'.lk=m.lk)(e3:m'.T=m.T):rank P m' i a=rank P m i a:=by unfold rank;rw [e1,e3]
theorem mu_quiet (hm:me<3)(e1:m'.lk=m.lk)(e3:m'.T=m.T)(e4:∀j,j≠me→m'.e j=m.e j)(hem:hold (S me).ph=true→m'.e me=m.e me)(hh:hold b.ph=hold (S me).ph)(r:rN P me b≤rN P me (S me))
  (d:(kN m' (upd S me b) me=kN m S me∧sN m b≤sN m (S me)∧rank P m me b+69*sN m b<rank P m me (S me)+69*sN m (S me))∨(kN m' (upd S me b) me+1=kN m S me∧sN m b≤sN m (S me)+1∧rank P m me b+69*sN m b<rank P m me (S me)+69*sN m (S me)+72)):mu P m' (upd S me b)<mu P m S:=by
 have hS:∀j,j≠me→upd S me b j=S j:=fun j g=>upd_ot g
 refine mu_drop hm hS (fun j _ _=>sN_m e1) (fun j _ _=>rank_m e1 e3) (fun j hj hjm=>kN_ot hm hS (by rw [upd_me];exact hh) e4 hem hj hjm) (by rw [upd_me];exact r) (by rw [upd_me];unfold hN;rw [hh]) ?_ ?_
 ·rw [upd_me,sN_m e1];omega
 ·rw [upd_me,sN_m e1,rank_m e1 e3];omega
def ways:Ph→Bool
 | .go _ _=>true | .c7 _ _=>true | .yld _ _ _=>true
 | _=>false
theorem way_no {j:Nat}(h:ways a.ph=false):way m a j=false:=by
 unfold way
 cases e:a.ph <;> rw [e] at h <;> simp [ways] at h ⊢
theorem kN_no (hm:me<3)(h1:ways (S me).ph=false)(h2:ways b.ph=false):kN m' (upd S me b) me=kN m S me :=
 kN_me hm (fun j g=>upd_ot g) fun j _ _=>by rw [upd_me,way_no h1,way_no h2]
def Stuck (m:AM)(S:Nat→AT)(me:Nat):Prop :=
 (S me).ph=.fin∨(S me).ph=.wait∨(∃s,(m.lk s).held=true∧(m.lk s).owner > me)∨∃b since y,(S me).ph=.yld b since y∧m.e b.toNat≠0
theorem sN_live (h:live a.ph=true):sN m a=if staleB m a.rd=true then 1 else 0:=by
 have:is7 a.ph=false:=by cases e:a.ph <;> rw [e] at h <;> simp [live,is7] at h ⊢
 unfold sN;rw [this,h];simp
theorem sN_dead (h:live a.ph=false)(h7:is7 a.ph=false):sN m a=0:=by unfold sN;rw [h,h7];simp
theorem rank_f0 {i:Nat}(h:a.ph=.f0):rank P m i a=off a+(if (m.lk (P.s i a)).version≤a.st then 15+a.q else 26+a.q):=by unfold rank;rw [h]
theorem rank_f1 {i:Nat}{v:Int}(h:a.ph=.f1 v):rank P m i a=off a+(if m.lk (P.s i a)=⟨v,false,0⟩ then 14 else 36+a.q):=by unfold rank;rw [h]
theorem rank_f2 {i:Nat}{v w:Int}(h:a.ph=.f2 v w):rank P m i a=off a+(if m.lk (P.s i a)=⟨v,false,0⟩ then 13 else 31+a.q):=by unfold rank;rw [h]
theorem rank_go {i:Nat}{e b:Int}(h:a.ph=.go e b):rank P m i a=if e=3 then 1 else if e=5 then (if 0≤b then 73 else 70) else 62:=by unfold rank;rw [h]
theorem rank_x0 {i:Nat}{blk:Bool}(h:a.ph=.x0 blk):rank P m i a=if blk=true then 12 else off a+25:=by unfold rank;rw [h]
theorem rank_c0 {i:Nat}(h:a.ph=.c0):rank P m i a=2+a.q:=by unfold rank;rw [h]
theorem off_le:0≤off a∧off a≤28:=by unfold off;split <;> omega
theorem mu_way (h:Inv P m S)(hm:me<3){s:Nat}(hh:hold (S me).ph=false)(hw:ways (S me).ph=false)(hl:live (S me).ph=true)(c:(m.lk s).held=true)(c2:¬(m.lk s).owner > me)(hr:2≤rank P m me (S me)) :
  mu P m (upd S me { S me with ph:=.go 5 (m.lk s).owner })<mu P m S:=by
 obtain⟨o,h1,h2,h3,h4,h5⟩:=held_by h hh c
 have ho:o<me:=by omega
 refine mu_quiet hm rfl rfl (fun _ _=>rfl) (fun _=>rfl) (by rw [hh];rfl) ?_ (.inr ⟨?_,?_,?_⟩)
 ·unfold rN
  show (P.n me:Int)-(S me).job-(if (5:Int)=2 then 1 else 0)≤_
  cases e:(S me).ph <;> simp [e,ways] at hw ⊢
 ·refine kN_way hm (fun j g=>upd_ot g) ho h4 (fun j _=>way_no hw) fun j hj=>?_
  rw [upd_me]
  unfold way
  simp only [decide_true,Bool.true_and,h3]
  by_cases g:j=o
  ·subst g;simp
  ·rw [decide_eq_false g,decide_eq_false (by omega)]
 ·have:sN m { S me with ph:=.go 5 (m.lk s).owner }=0:=sN_dead rfl rfl
  rw [this];have:=sN_le (m:=m) (a:=S me);omega
 ·have:sN m { S me with ph:=.go 5 (m.lk s).owner }=0:=sN_dead rfl rfl
  rw [this,rank_go (e:=5) rfl,if_neg (by decide),if_pos rfl,if_pos (by omega)]
  have:=sN_le (m:=m) (a:=S me)
  omega
theorem rN_no {i:Nat}(h:ways a.ph=false):rN P i a=(P.n i:Int)-a.job:=by
 unfold rN;cases e:a.ph <;> rw [e] at h <;> simp [ways] at h ⊢
theorem mu_on (hm:me<3)(hb:Same (S me) b)(h1:ways (S me).ph=false)(h2:ways b.ph=false)(hh:hold b.ph=hold (S me).ph)(hs:sN m b≤sN m (S me))(hr:rank P m me b<rank P m me (S me)):mu P m (upd S me b)<mu P m S :=
 mu_quiet hm rfl rfl (fun _ _=>rfl) (fun _=>rfl) hh (by rw [rN_no h1,rN_no h2,hb.job];exact Int.le_refl _) (.inl ⟨kN_no hm h1 h2,hs,by omega⟩)
theorem found_mu (hP:PrOk P)(h:Inv P m S)(hm:me<3)(hf:(S me).ph=.f0∨∃v w,(S me).ph=.f2 v w∧m.lk (P.s me (S me))≠⟨v,false,0⟩)(hr:Run P m me (S me)) :
  mu P m (upd S me (found P me (S me) (m.lk (P.s me (S me)))))<mu P m S∨(found P me (S me) (m.lk (P.s me (S me)))=S me∧Stuck m S me):=by
 have sp:=hP.sp
 obtain⟨r1,r2,r3,r4,r5,r6⟩:=hr
 have ho:=off_le (a:=S me)
 have hh:hold (S me).ph=false:=by rcases hf with e | ⟨v,w,e,_⟩ <;> rw [e] <;> rfl
 have hw:ways (S me).ph=false:=by rcases hf with e | ⟨v,w,e,_⟩ <;> rw [e] <;> rfl
 have hl:live (S me).ph=true:=by rcases hf with e | ⟨v,w,e,_⟩ <;> rw [e] <;> rfl
 have hrk:rank P m me (S me)=off (S me)+(if (m.lk (P.s me (S me))).version≤(S me).st then 15+(S me).q else 26+(S me).q)∨rank P m me (S me)=off (S me)+(31+(S me).q):=by
  rcases hf with e | ⟨v,w,e,c⟩
  ·exact .inl (rank_f0 e)
  ·right;rw [rank_f2 e,if_neg c]
 have hsn:∀b:AT,live b.ph=true→b.rd=(S me).rd→sN m b≤sN m (S me):=fun b g1 g2=>by rw [sN_live g1,sN_live hl,g2];exact Int.le_refl _
 unfold found
 by_cases c:(m.lk (P.s me (S me))).held=true
 ·rw [if_pos c]
  rcases wait_cases { S me with ph:=.f0 } me (m.lk (P.s me (S me))).owner (.go 5 (m.lk (P.s me (S me))).owner) with ⟨e1,g⟩ | ⟨e1,g,g2⟩ | ⟨e1,g,g2⟩
  ·rw [e1]
   rcases hf with e | ⟨v,w,e,c2⟩
   ·right
    refine⟨?_,.inr (.inr (.inl ⟨_,c,g⟩))⟩
    cases hS:S me with
    | mk ph job st q sec rd al=>rw [hS] at e;simp only at e;rw [e]
   ·left
    refine mu_on hm ⟨rfl,rfl,rfl,rfl,rfl⟩ hw rfl (by rw [hh];rfl) (hsn _ rfl rfl) ?_
    rw [rank_f0 rfl,rank_f2 e,if_neg c2]
    show off (S me)+(if (m.lk (P.s me (S me))).version≤(S me).st then 15+(S me).q else 26+(S me).q)<_
    split <;> omega
  ·rw [e1]
   left
   refine mu_on hm ⟨rfl,rfl,rfl,rfl,rfl⟩ hw rfl (by rw [hh];rfl) (hsn _ rfl rfl) ?_
   rw [rank_f0 rfl]
   show off (S me)+(if (m.lk (P.s me (S me))).version≤(S me).st then 15+((S me).q-1) else 26+((S me).q-1))<_
   rcases hrk with k | k <;> rw [k] <;> split <;> omega
  ·rw [e1]
   left
   refine mu_way h hm hh hw hl c g2 ?_
   rcases hrk with k | k <;> rw [k] <;> (try split) <;> omega
 ·rw [if_neg c]
  left
  by_cases c2:(S me).st<(m.lk (P.s me (S me))).version
  ·rw [if_pos c2]
   refine mu_on hm ⟨rfl,rfl,rfl,rfl,rfl⟩ hw rfl (by rw [hh];rfl) (hsn _ rfl rfl) ?_
   rw [rank_x0 rfl,if_neg (by decide)]
   show off (S me)+25<_
   rcases hrk with k | k <;> rw [k]
   ·rw [if_neg (by omega)];omega
   ·omega
  ·rw [if_neg c2]
   refine mu_on hm ⟨rfl,rfl,rfl,rfl,rfl⟩ hw rfl (by rw [hh];rfl) (hsn _ rfl rfl) ?_
   rw [rank_f1 rfl]
   show off (S me)+(if m.lk (P.s me (S me))=⟨(m.lk (P.s me (S me))).version,false,0⟩ then 14 else 36+(S me).q)<_
   rw [if_pos (free_lk h c)]
   rcases hrk with k | k <;> rw [k] <;> (try split) <;> omega
theorem wait_mu (h:Inv P m S)(hm:me<3){s:Nat}(hh:hold (S me).ph=false)(hw:ways (S me).ph=false)(hl:live (S me).ph=true)(c:(m.lk s).held=true)(hr:2≤rank P m me (S me))(hq:rank P m me { S me with q:=(S me).q-1 }<rank P m me (S me)) :
  mu P m (upd S me (waitW me (S me) (m.lk s).owner (.go 5 (m.lk s).owner)))<mu P m S∨(waitW me (S me) (m.lk s).owner (.go 5 (m.lk s).owner)=S me∧Stuck m S me):=by
 rcases wait_cases (S me) me (m.lk s).owner (.go 5 (m.lk s).owner) with ⟨e1,g⟩ | ⟨e1,g,g2⟩ | ⟨e1,g,g2⟩
 ·exact .inr ⟨e1,.inr (.inr (.inl ⟨_,c,g⟩))⟩
 ·rw [e1]
  left
  exact mu_on hm ⟨rfl,rfl,rfl,rfl,rfl⟩ hw hw rfl (Int.le_of_eq (by unfold sN;rfl)) hq
 ·rw [e1]
  exact .inl (mu_way h hm hh hw hl c g2 hr)
theorem rank_coming {i:Nat}(h:a.ph=.coming):rank P m i a=61:=by unfold rank;rw [h]
theorem rank_asking {i:Nat}(h:a.ph=.asking):rank P m i a=60:=by unfold rank;rw [h]
theorem rank_marking {i:Nat}(h:a.ph=.marking):rank P m i a=59:=by unfold rank;rw [h]
theorem mu_mark (hm:me<3){x:Int}(hj:b.job=(S me).job)(h1:ways (S me).ph=false)(h2:ways b.ph=false)(hh:hold (S me).ph=false)(hh2:hold b.ph=false)(hs:sN m b≤sN m (S me))(hr:rank P m me b<rank P m me (S me)):mu P { m with e:=upd m.e me x } (upd S me b)<mu P m S :=
 mu_quiet hm rfl rfl (fun _ g=>upd_ot g) (fun g=>by rw [hh] at g;cases g) (by rw [hh,hh2]) (by rw [rN_no h1,rN_no h2,hj];exact Int.le_refl _) (.inl ⟨kN_no hm h1 h2,hs,by omega⟩)
theorem mu_raise (hm:me<3)(e1:m'.lk=m.lk)(e4:m'.e=m.e)(hT:m.T<m'.T)(h:Inv P m S)(hh:hold b.ph=hold (S me).ph)(r:rN P me b≤rN P me (S me))(hk:kN m' (upd S me b) me=kN m S me)
  (sk:sN m b≤sN m (S me)) (d:rank P m' me b+5≤rank P m me (S me)):mu P m' (upd S me b)<mu P m S:=by
 have hS:∀j,j≠me→upd S me b j=S j:=fun j g=>upd_ot g
 have hr:∀j,j<3→j≠me→rank P m' j (S j)≤rank P m j (S j)+2:=fun j hj hjm=>by
  have hl:=h.lo j hj
  unfold rank
  rw [e1]
  cases e:(S j).ph <;> simp only [] <;> try omega
 have hs:∀j,sN m' (S j)=sN m (S j):=fun j=>sN_m e1
 have hk2:∀j,j<3→j≠me→kN m' (upd S me b) j=kN m S j:=fun j hj hjm=>kN_ot hm hS (by rw [upd_me];exact hh) (fun j _=>by rw [e4]) (fun _=>by rw [e4]) hj hjm
 have hb:hN b=hN (S me):=by unfold hN;rw [hh]
 have sb:sN m' b=sN m b:=sN_m e1
 have hc:me=0∨me=1∨me=2:=by omega
 unfold mu evs lam
 rcases hc with rfl | rfl | rfl
 ·have r1:=hr 1 (by decide) (by decide);have r2:=hr 2 (by decide) (by decide)
  have k1:=hk2 1 (by decide) (by decide);have k2:=hk2 2 (by decide) (by decide)
  rw [hS 1 (by decide),hS 2 (by decide),upd_me,hs 1,hs 2,k1,k2,hk,hb,sb]
  omega
 ·have r1:=hr 0 (by decide) (by decide);have r2:=hr 2 (by decide) (by decide)
  have k1:=hk2 0 (by decide) (by decide);have k2:=hk2 2 (by decide) (by decide)
  rw [hS 0 (by decide),hS 2 (by decide),upd_me,hs 0,hs 2,k1,k2,hk,hb,sb]
  omega
 ·have r1:=hr 0 (by decide) (by decide);have r2:=hr 1 (by decide) (by decide)
  have k1:=hk2 0 (by decide) (by decide);have k2:=hk2 1 (by decide) (by decide)
  rw [hS 0 (by decide),hS 1 (by decide),upd_me,hs 0,hs 1,k1,k2,hk,hb,sb]
  omega
theorem sN_coming (h:a.ph=.coming∨a.ph=.asking∨a.ph=.marking):sN m a=0:=by
 refine sN_dead ?_ ?_ <;> rcases h with h | h | h <;> rw [h] <;> rfl
theorem addRd_stale {l:List (Nat×Int)}{s:Nat}{v:Int}(h:(m.lk s).version=v):staleB m (addRd l s v)=staleB m l:=by
 unfold addRd
 split
 ·rfl
 ·unfold staleB
  rw [List.any_append]
  simp [h]
theorem way_go {j:Nat}{e b:Int}(h:a.ph=.go e b):way m a j=(decide (e=5) && decide (b=j)):=by unfold way;rw [h]
theorem way_yld {j:Nat}{b since:Int}{y:Bool}(h:a.ph=.yld b since y):way m a j=(decide (b=j) && (!y || decide (since=m.e j))):=by unfold way;rw [h]
theorem pausing_mu (p0:0≤p)(p8:p≤8):rank P m me (pausing a p)≤61+p∧ways (pausing a p).ph=false∧hold (pausing a p).ph=false∧sN m (pausing a p)=0∧(pausing a p).job=a.job:=by
 unfold pausing
 by_cases c:p=0
 ·rw [if_pos c]
  exact⟨by rw [rank_coming rfl];omega,rfl,rfl,sN_dead rfl rfl,rfl⟩
 ·rw [if_neg c]
  exact⟨Int.le_refl _,rfl,rfl,sN_dead rfl rfl,rfl⟩
theorem kap_mono {j:Nat}{a' b':AT}(h1:hold b'.ph=true→hold b.ph=true)(h2:hold b'.ph=true→way m a j=true→way m' a' j=true):kap m' a' j b'≤kap m a j b:=by
 unfold kap
 by_cases c:hold b'.ph=true∧way m' a' j=false
 ·rw [if_pos c,if_pos ⟨h1 c.1,by
   cases e:way m a j with
   | false=>rfl
   | true=>rw [h2 c.1 e] at c;exact c.2⟩]
  decide
 ·rw [if_neg c];split <;> decide
theorem kap_neg {j:Nat}(h:hold b.ph=false):kap m a j b=0:=by unfold kap;rw [if_neg (fun g=>by rw [h] at g;exact absurd g.1 (by decide))]
theorem way_wake {j s:Nat}{v:Int}:way m (wakeT a s v) j=way m a j:=by
 unfold wakeT
 split
 ·split
  ·rename_i e
   rw [way_no (a:=a) (by rw [e];rfl),way_no rfl]
  ·split <;> rfl
 ·rfl
theorem hold_wake {s:Nat}{v:Int}:hold (wakeT a s v).ph=hold a.ph:=by
 unfold wakeT
 split
 ·split
  ·rename_i e
   rw [e];rfl
  ·split <;> rfl
 ·rfl
theorem rN_wake {i s:Nat}{v:Int}:rN P i (wakeT a s v)=rN P i a:=by
 unfold wakeT
 split
 ·split
  ·rename_i e
   rw [rN_no (a:=a) (by rw [e];rfl),rN_no rfl];rfl
  ·split <;> rfl
 ·rfl
theorem sN_wake {s:Nat}{v:Int}:sN m (wakeT a s v)≤sN m a:=by
 have:=sN_le (m:=m) (a:=a)
 unfold wakeT
 split
 ·split
  ·rw [sN_coming (.inl rfl)];exact this.1
  ·split
   ·exact Int.le_refl _
   ·exact Int.le_refl _
 ·exact Int.le_refl _
theorem evs_le (hm:me<3){d c r x y:Int}(hc:(d=0∧c=1∧r=0∧x=-1∧y=0)∨(d=1∧c=0∧r=1∧x=1∧y=0)∨(d=0∧c=0∧r=0∧x=1∧y=1))
  (ro:∀j,j<3→j≠me→rN P j (S' j)=rN P j (S j)) (ho:∀j,j<3→j≠me→hold (S' j).ph=hold (S j).ph) (so:∀j,j<3→j≠me→sN m' (S' j)≤sN m (S j)+d)
  (wo:∀i j,i<3→i≠me→hold (S' j).ph=true→way m (S i) j=true→way m' (S' i) j=true) (wm:∀j,way m (S me) j=true→way m' (S' me) j=true) (ch:c=0→hold (S' me).ph=false)
  (rm:rN P me (S' me)+r≤rN P me (S me)) (xm:hN (S' me)+x=hN (S me)) (sm:sN m' (S' me)+y≤sN m (S me)):evs P m' S'+1≤evs P m S:=by
 have hx:me=0∨me=1∨me=2:=by omega
 have hcc:0≤c:=by omega
 have hN':∀j,j<3→j≠me→hN (S' j)=hN (S j):=fun j hj hjm=>by unfold hN;rw [ho j hj hjm]
 have k1:∀i j,i<3→j<3→j≠me→kap m' (S' i) j (S' j)≤kap m (S i) j (S j):=fun i j hi hj hjm=>by
  refine kap_mono (fun g=>by rw [←ho j hj hjm];exact g) fun g1 g2=>?_
  by_cases e:i=me
  ·subst e;exact wm j g2
  ·exact wo i j hi e g1 g2
 have k2:∀i,i<3→kap m' (S' i) me (S' me)≤kap m (S i) me (S me)+c:=fun i hi=>by
  have g1:=kap_le (m:=m) (a:=S i) (j:=me) (b:=S me)
  have g2:=kap_le (m:=m') (a:=S' i) (j:=me) (b:=S' me)
  by_cases e:c=0
  ·rw [kap_neg (ch e)];omega
  ·omega
 unfold evs
 rw [kN_0,kN_0,kN_1,kN_1,kN_2,kN_2]
 rcases hx with rfl | rfl | rfl
 ·have r1:=ro 1 (by decide) (by decide);have r2:=ro 2 (by decide) (by decide)
  have h1:=hN' 1 (by decide) (by decide);have h2:=hN' 2 (by decide) (by decide)
  have s1:=so 1 (by decide) (by decide);have s2:=so 2 (by decide) (by decide)
  have a1:=k2 1 (by decide);have a2:=k2 2 (by decide);have a3:=k1 2 1 (by decide) (by decide) (by decide)
  omega
 ·have r1:=ro 0 (by decide) (by decide);have r2:=ro 2 (by decide) (by decide)
  have h1:=hN' 0 (by decide) (by decide);have h2:=hN' 2 (by decide) (by decide)
  have s1:=so 0 (by decide) (by decide);have s2:=so 2 (by decide) (by decide)
  have a1:=k1 1 0 (by decide) (by decide) (by decide);have a2:=k1 2 0 (by decide) (by decide) (by decide);have a3:=k2 2 (by decide)
  omega
 ·have r1:=ro 0 (by decide) (by decide);have r2:=ro 1 (by decide) (by decide)
  have h1:=hN' 0 (by decide) (by decide);have h2:=hN' 1 (by decide) (by decide)
  have s1:=so 0 (by decide) (by decide);have s2:=so 1 (by decide) (by decide)
  have a1:=k1 1 0 (by decide) (by decide) (by decide);have a2:=k1 2 0 (by decide) (by decide) (by decide);have a3:=k1 2 1 (by decide) (by decide) (by decide)
  omega
theorem sN_ver (hv:∀s,(m'.lk s).version=(m.lk s).version):sN m' a=sN m a:=by
 unfold sN staleB;simp only [hv]
theorem hN_eq {x:Bool}(h:hold a.ph=x):hN a=if x=true then 1 else 0:=by unfold hN;rw [h]
theorem step_mu (hP:PrOk P)(hm:me<3)(h:Inv P m S)(p0:0≤p)(p8:p≤8) :
  mu P (stepT P me m (S me) p).1 (stepS P me S (stepT P me m (S me) p).2)<mu P m S∨((stepT P me m (S me) p).1=m∧stepS P me S (stepT P me m (S me) p).2=S∧Stuck m S me):=by
 have sp:=hP.sp
 have hlo:=h.lo me hm
 have hi:=step_inv hP hm h p0 p8
 have hSS:upd S me (S me)=S:=funext fun j=>by unfold upd;split;subst_vars;rfl;rfl
 cases e:(S me).ph
 case coming =>
  left
  simp only [stepT,stepS,relOf,e]
  exact mu_mark hm rfl (by rw [e];rfl) rfl (by rw [e];rfl) rfl (by rw [sN_coming (.inr (.inl rfl)),sN_coming (.inl e)];exact Int.le_refl _) (by rw [rank_asking rfl,rank_coming e];decide)
 case asking =>
  left
  simp only [stepT,stepS,relOf,e]
  exact mu_quiet hm rfl rfl (fun _ _=>rfl) (fun _=>rfl) (by rw [e];rfl) (by rw [rN_no (a:=S me) (by rw [e];rfl),rN_no rfl];exact Int.le_refl _) (.inl ⟨kN_no hm (by rw [e];rfl) rfl,by rw [sN_coming (.inr (.inr rfl)),sN_coming (.inr (.inl e))];exact Int.le_refl _,by rw [sN_coming (.inr (.inr rfl)),sN_coming (.inr (.inl e)),rank_marking rfl,rank_asking e];decide⟩)
 case f0 =>
  simp only [Lo,e] at hlo
  simp only [stepT,stepS,relOf,e]
  rcases found_mu hP h hm (.inl e) hlo.1 with g | ⟨g1,g2⟩
  ·exact .inl g
  ·right;rw [g1,hSS];exact⟨trivial,rfl,g2⟩
 case wait=>right;simp only [stepT,stepS,relOf,e];exact⟨trivial,hSS,.inr (.inl e)⟩
 case fin=>right;simp only [stepT,stepS,relOf,e];exact⟨trivial,hSS,.inl e⟩
 case marking =>
  left
  simp only [Lo,e] at hlo
  obtain⟨h1,h2,h3,h4,h5,h6,h7⟩:=hlo
  simp only [stepT,stepS,relOf,e]
  have hs:∀b:AT,b.rd=(S me).rd→live b.ph=true→sN m b≤sN m (S me):=fun b g1 g2=>by
   rw [sN_live g2,g1,h5]
   have:=sN_le (m:=m) (a:=S me)
   rw [if_neg (by simp [staleB])];exact this.1
  cases ht:(P.job me (S me).job).tk
  ·rw [if_neg (by decide)]
   exact mu_mark hm rfl (by rw [e];rfl) rfl (by rw [e];rfl) rfl (hs _ rfl rfl) (by rw [rank_c0 rfl,rank_marking e];simp only;omega)
  ·rw [if_pos rfl]
   refine mu_mark hm rfl (by rw [e];rfl) rfl (by rw [e];rfl) rfl (hs _ rfl rfl) ?_
   rw [rank_f0 rfl,rank_marking e]
   have:=off_le (a:={ S me with ph:=.f0,q:=P.sp })
   simp only at this ⊢
   split <;> omega
 case f1 v =>
  left
  simp only [Lo,e] at hlo
  obtain⟨⟨r1,r2,r3,r4,r5,r6⟩,h2,h3⟩:=hlo
  simp only [stepT,stepS,relOf,e]
  refine mu_on hm ⟨rfl,rfl,rfl,rfl,rfl⟩ (by rw [e];rfl) rfl (by rw [e];rfl) (by rw [sN_live rfl,sN_live (a:=S me) (by rw [e];rfl)];exact Int.le_refl _) ?_
  rw [rank_f2 rfl,rank_f1 e]
  show off (S me)+(if m.lk (P.s me (S me))=⟨v,false,0⟩ then 13 else 31+(S me).q)<_
  split <;> omega
 case f2 v w =>
  simp only [Lo,e] at hlo
  obtain⟨hr,h2,h3,h4,h5⟩:=hlo
  obtain⟨r1,r2,r3,r4,r5,r6⟩:=hr
  simp only [stepT,stepS,relOf,e]
  by_cases c:m.lk (P.s me (S me))=⟨v,false,0⟩
  ·rw [if_pos c]
   left
   have hk:rank P m me (S me)=off (S me)+13:=by rw [rank_f2 e,if_pos c]
   have ho:=off_le (a:=S me)
   have hs:∀b:AT,b.rd=addRd (S me).rd (P.s me (S me)) v→live b.ph=true→sN m b≤sN m (S me):=fun b g1 g2=>by
    rw [sN_live g2,sN_live (a:=S me) (by rw [e];rfl),g1,addRd_stale (by rw [c])];exact Int.le_refl _
   have go:∀b:AT,b.job=(S me).job→b.rd=addRd (S me).rd (P.s me (S me)) v→live b.ph=true→hold b.ph=false→ways b.ph=false→rank P m me b<off (S me)+13→mu P m (upd S me b)<mu P m S:=fun b g1 g2 g3 g4 g5 g6 =>
    mu_quiet hm rfl rfl (fun _ _=>rfl) (fun _=>rfl) (by rw [e];exact g4) (by rw [rN_no (a:=S me) (by rw [e];rfl),rN_no g5,g1];exact Int.le_refl _) (.inl ⟨kN_no hm (by rw [e];rfl) g5,hs b g2 g3,by have:=hs b g2 g3;omega⟩)
   unfold got
   by_cases cw:w≠0
   ·rw [if_pos cw]
    exact go _ rfl rfl rfl rfl rfl (by rw [rank_c0 rfl];simp only;omega)
   ·rw [if_neg cw]
    cases hsec:(S me).sec
    ·rw [if_neg (by decide)]
     refine go _ rfl rfl rfl rfl rfl ?_
     rw [rank_f0 rfl]
     have h1:off (S me)=28:=by unfold off;rw [hsec];rfl
     have h2:∀a:AT,a.sec=true→off a=0:=fun a g=>by unfold off;rw [g];rfl
     rw [h1,h2 _ rfl]
     simp only
     split <;> omega
    ·rw [if_pos rfl]
     refine go _ rfl rfl rfl rfl rfl ?_
     rw [rank_x0 rfl,if_pos rfl];omega
  ·rw [if_neg c]
   rcases found_mu hP h hm (.inr ⟨v,w,e,c⟩) ⟨r1,r2,r3,r4,r5,r6⟩ with g | ⟨g1,g2⟩
   ·exact .inl g
   ·right;rw [g1,hSS];exact⟨trivial,rfl,g2⟩
 case c1 V =>
  simp only [Lo,e] at hlo
  left
  simp only [stepT,stepS,relOf,e] at hi ⊢
  by_cases c:m.lk (P.s me (S me))=⟨V,false,0⟩
  ·simp only [if_pos c] at hi ⊢
   have hv:∀s,(({ m with lk:=upd m.lk (P.s me (S me)) ⟨V,true,me⟩ }:AM).lk s).version=(m.lk s).version:=fun s=>by
    show (upd m.lk (P.s me (S me)) ⟨V,true,me⟩ s).version=_
    by_cases c2:s=P.s me (S me)
    ·subst c2;rw [upd_me,c]
    ·rw [upd_ot c2]
   refine mu_event h hi (evs_le hm (d:=0) (c:=1) (r:=0) (x:=-1) (y:=0) (.inl ⟨rfl,rfl,rfl,rfl,rfl⟩) (fun j _ hj=>?_) (fun j _ hj=>?_) (fun j _ hj=>?_) (fun i j _ hi' _ g=>?_) (fun j g=>?_) (fun g=>by cases g) ?_ ?_ ?_)
   ·rw [upd_ot hj]
   ·rw [upd_ot hj]
   ·rw [upd_ot hj,sN_ver hv];omega
   ·rw [upd_ot hi',way_e rfl];exact g
   ·rw [way_no (a:=S me) (by rw [e];rfl)] at g;cases g
   ·rw [upd_me,rN_no (a:=S me) (by rw [e];rfl),rN_no rfl];show (P.n me:Int)-(S me).job+0≤_;omega
   ·rw [upd_me,hN_eq (a:=S me) (x:=false) (by rw [e];rfl),hN_eq (x:=true) rfl];rfl
   ·rw [upd_me,sN_ver hv,sN_live rfl,sN_live (a:=S me) (by rw [e];rfl)]
    exact Int.le_of_eq (Int.add_zero _)
  ·simp only [if_neg c]
   refine mu_on hm ⟨rfl,rfl,rfl,rfl,rfl⟩ (by rw [e];rfl) rfl (by rw [e];rfl) (by rw [sN_live rfl,sN_live (a:=S me) (by rw [e];rfl)];exact Int.le_refl _) ?_
   rw [rank_c0 rfl]
   unfold rank
   rw [e]
   simp only [if_neg c]
   omega
 case c0 =>
  simp only [Lo,e] at hlo
  obtain⟨⟨r1,r2,r3,r4,r5,r6⟩,h2,h3⟩:=hlo
  simp only [stepT,stepS,relOf,e]
  by_cases c:(m.lk (P.s me (S me))).held=true
  ·rw [if_pos c]
   rcases wait_mu h hm (by rw [e];rfl) (by rw [e];rfl) (by rw [e];rfl) c (by rw [rank_c0 e];omega) (by rw [rank_c0 e,rank_c0 (a:={ S me with q:=(S me).q-1 }) e];simp only;omega) with g | ⟨g1,g2⟩
   ·exact .inl g
   ·right;rw [g1,hSS];exact⟨trivial,rfl,g2⟩
  ·rw [if_neg c]
   left
   refine mu_on hm ⟨rfl,rfl,rfl,rfl,rfl⟩ (by rw [e];rfl) rfl (by rw [e];rfl) (by rw [sN_live rfl,sN_live (a:=S me) (by rw [e];rfl)];exact Int.le_refl _) ?_
   rw [rank_c0 e]
   have:rank P m me { S me with ph:=.c1 (m.lk (P.s me (S me))).version }=if m.lk (P.s me (S me))=⟨(m.lk (P.s me (S me))).version,false,0⟩ then 1 else 8+(S me).q:=rfl
   rw [this,if_pos (free_lk h c)]
   omega
 case c2 V =>
  left
  simp only [stepT,stepS,relOf,e]
  refine mu_on hm ⟨rfl,rfl,rfl,rfl,rfl⟩ (by rw [e];rfl) rfl (by rw [e];rfl) (by rw [sN_live rfl,sN_live (a:=S me) (by rw [e];rfl)];exact Int.le_refl _) ?_
  have h1:rank P m me { S me with ph:=.c3 V m.T }=if m.T=m.T then 20 else 22:=rfl
  have h2:rank P m me (S me)=21:=by unfold rank;rw [e]
  rw [h1,h2,if_pos rfl];decide
 case c5 V now =>
  left
  simp only [stepT,stepS,relOf,e]
  refine mu_quiet hm rfl rfl (fun _ _=>rfl) (fun _=>rfl) (by rw [e];rfl) (by rw [rN_no (a:=S me) (by rw [e];rfl),rN_no rfl];exact Int.le_refl _) (.inl ⟨kN_no hm (by rw [e];rfl) rfl,by rw [sN_live rfl,sN_live (a:=S me) (by rw [e];rfl)];exact Int.le_refl _,?_⟩)
  have h1:rank P m me { S me with ph:=.c6 V now }=2:=rfl
  have h2:rank P m me (S me)=3:=by unfold rank;rw [e]
  rw [h1,h2,sN_live rfl,sN_live (a:=S me) (by rw [e];rfl)]
  simp only;omega
 case x0 blk =>
  left
  simp only [Lo,e] at hlo
  obtain⟨⟨r1,r2,r3,r4,r5,r6⟩,h2⟩:=hlo
  simp only [stepT,stepS,relOf,e]
  have hk:rank P m me (S me)=if blk=true then 12 else off (S me)+25:=rank_x0 e
  have ho:=off_le (a:=S me)
  have hV:=(h.v0 (P.s me (S me))).2
  by_cases c:(S me).rd=[]
  ·rw [if_pos c]
   have hblk:blk=false:=by
    cases blk
    ·rfl
    ·rw [if_pos rfl] at h2
     obtain⟨v,g,_⟩:=h2.1.2.2.2 true
     rw [c] at g;cases g
   subst hblk
   unfold extended
   rw [if_neg (by decide)]
   refine mu_quiet hm rfl rfl (fun _ _=>rfl) (fun _=>rfl) (by rw [e];rfl) (by rw [rN_no (a:=S me) (by rw [e];rfl),rN_no rfl];exact Int.le_refl _) (.inl ⟨kN_no hm (by rw [e];rfl) rfl,by rw [sN_live rfl,sN_live (a:=S me) (by rw [e];rfl)];exact Int.le_refl _,?_⟩)
   rw [sN_live rfl,sN_live (a:=S me) (by rw [e];rfl),rank_f0 rfl,hk]
   simp only [Bool.false_eq_true,if_false]
   show off (S me)+(if (m.lk (P.s me (S me))).version≤m.T then 15+P.sp else 26+P.sp)+_<_
   rw [if_pos hV]
   omega
  ·rw [if_neg c]
   refine mu_on hm ⟨rfl,rfl,rfl,rfl,rfl⟩ (by rw [e];rfl) rfl (by rw [e];rfl) (by rw [sN_live rfl,sN_live (a:=S me) (by rw [e];rfl)];exact Int.le_refl _) ?_
   have h1:rank P m me { S me with ph:=.x1 blk m.T 0 }=if blk=true then 2+5*(((S me).rd.length:Int)-(0:Nat)-1)+(S me).q else if (m.lk (P.s me (S me))).version≤m.T then 20+(S me).q else 31+(S me).q:=rfl
   rw [h1,hk]
   cases blk
   ·simp only [Bool.false_eq_true,if_false,if_pos hV];omega
   ·rw [if_pos rfl] at h2
    have:=h2.1.2.2.1
    rw [if_pos rfl,if_pos rfl];omega
 case x1 blk T j =>
  simp only [Lo,e] at hlo
  obtain⟨⟨r1,r2,r3,r4,r5,r6⟩,h2,h3,h4,h5,h6⟩:=hlo
  simp only [stepT,stepS,relOf,e]
  have hrk:∀q:Int,(if blk=true then 2+5*(((S me).rd.length:Int)-j-1)+q else if (m.lk (P.s me (S me))).version≤T then 20+q else 31+q)=rank P m me { S me with q:=q }:=fun q=>by
   unfold rank;simp only [e];rfl
  have hk:rank P m me (S me)=if blk=true then 2+5*(((S me).rd.length:Int)-j-1)+(S me).q else if (m.lk (P.s me (S me))).version≤T then 20+(S me).q else 31+(S me).q:=by unfold rank;rw [e]
  have hge:2≤rank P m me (S me):=by rw [hk];split;omega;split <;> omega
  by_cases c:(m.lk (rdAt (S me) j).1).held=true
  ·rw [if_pos c]
   rcases wait_mu h hm (by rw [e];rfl) (by rw [e];rfl) (by rw [e];rfl) c hge (by rw [←hrk,hk];split;omega;split <;> omega) with g | ⟨g1,g2⟩
   ·exact .inl g
   ·right;rw [g1,hSS];exact⟨trivial,rfl,g2⟩
  ·rw [if_neg c]
   left
   have hj:(S me).rd[j]? = some (rdAt (S me) j):=by
    unfold rdAt
    rw [List.getD_eq_getElem?_getD,List.getElem?_eq_getElem h2];rfl
   have wn:∀b:AT,(∀i:Nat,i<me→way m b i=false)→kN m (upd S me b) me=kN m S me:=fun b g =>
    kN_me hm (fun j g=>upd_ot g) fun i hi _=>by rw [upd_me,g i hi,way_no (by rw [e];rfl)]
   have hsl:sN m (S me)=if staleB m (S me).rd=true then 1 else 0:=sN_live (by rw [e];rfl)
   by_cases c2:(m.lk (rdAt (S me) j).1).version≠(rdAt (S me) j).2
   ·rw [if_pos c2]
    have hst:staleB m (S me).rd=true:=by
     unfold staleB
     rw [List.any_eq_true]
     exact⟨_,List.mem_of_getElem? hj,by simpa using c2⟩
    rw [if_pos hst] at hsl
    have h0:sN m { S me with ph:=.go 5 (-1) }=0:=sN_dead rfl rfl
    refine mu_quiet hm rfl rfl (fun _ _=>rfl) (fun _=>rfl) (by rw [e];rfl) (by rw [rN_no (a:=S me) (by rw [e];rfl)];exact Int.le_of_eq (by show (P.n me:Int)-(S me).job-(if (5:Int)=2 then 1 else 0)=_;simp)) (.inl ⟨wn _ fun i hi=>?_,by rw [h0,hsl];decide,?_⟩)
    ·show (decide ((5:Int)=5) && decide ((-1:Int)=i))=false
     rw [decide_eq_false (p:=(-1:Int)=i) (by omega)];rfl
    ·rw [h0,hsl,rank_go (e:=5) (b:=-1) rfl,if_neg (by decide),if_pos rfl,if_neg (by decide)];omega
   ·rw [if_neg c2]
    by_cases c3:j+1=(S me).rd.length
    ·rw [if_pos c3]
     unfold extended
     cases blk
     ·rw [if_neg (by decide)] at h6 ⊢
      have hsec:(S me).sec=true:=by
       cases g:(S me).sec with
       | true=>rfl
       | false=>have:=h6.2.2.1 g;rw [this] at h2;simp at h2
      refine mu_quiet hm rfl rfl (fun _ _=>rfl) (fun _=>rfl) (by rw [e];rfl) (by rw [rN_no (a:=S me) (by rw [e];rfl),rN_no rfl];exact Int.le_refl _) (.inl ⟨kN_no hm (by rw [e];rfl) rfl,by rw [sN_live rfl,hsl];exact Int.le_refl _,?_⟩)
      rw [sN_live rfl,hsl,rank_f0 rfl,hk]
      have h1:∀a:AT,a.sec=true→off a=0:=fun a g=>by unfold off;rw [g];rfl
      rw [h1 { S me with ph:=.f0,st:=T,q:=P.sp } hsec]
      show 0+(if (m.lk (P.s me (S me))).version≤T then 15+P.sp else 26+P.sp)+_<_
      simp only [Bool.false_eq_true,if_false]
      split <;> omega
     ·rw [if_pos rfl] at h6 ⊢
      have h3':sN m { S me with ph:=.go 3 (-1),st:=T }=if staleB m (S me).rd=true then 1 else 0:=sN_live rfl
      refine mu_quiet hm rfl rfl (fun _ _=>rfl) (fun _=>rfl) (by rw [e];rfl) (by rw [rN_no (a:=S me) (by rw [e];rfl)];exact Int.le_of_eq (by show (P.n me:Int)-(S me).job-(if (3:Int)=2 then 1 else 0)=_;simp)) (.inl ⟨wn _ fun i hi=>rfl,by rw [h3',hsl];exact Int.le_refl _,?_⟩)
      rw [h3',hsl,rank_go (e:=3) rfl,if_pos rfl];omega
    ·rw [if_neg c3]
     have hblk:blk=true:=by
      cases blk
      ·rw [if_neg (by decide)] at h6
       cases g:(S me).sec with
       | false=>have:=h6.2.2.1 g;rw [this] at h2;simp at h2
       | true =>
        obtain⟨v,g2,_⟩:=h6.2.2.2.1 g
        rw [g2] at h2 c3;simp at h2 c3;omega
      ·rfl
     subst hblk
     refine mu_on hm ⟨rfl,rfl,rfl,rfl,rfl⟩ (by rw [e];rfl) rfl (by rw [e];rfl) (by rw [sN_live rfl,hsl];exact Int.le_refl _) ?_
     have h1:rank P m me { S me with ph:=.x1 true T (j+1) }=2+5*(((S me).rd.length:Int)-(j+1:Nat)-1)+(S me).q:=rfl
     rw [h1,hk,if_pos rfl];omega
 case c3 V now =>
  left
  simp only [Lo,e] at hlo
  obtain⟨⟨r1,r2,r3,r4,r5,r6⟩,h2,h3,h4,h5,h6,h7,h8⟩:=hlo
  simp only [stepT,stepS,relOf,e]
  have hsl:sN m (S me)=if staleB m (S me).rd=true then 1 else 0:=sN_live (by rw [e];rfl)
  by_cases c:m.T=now
  ·simp only [if_pos c]
   have hk:rank P m me (S me)=20:=by
    have:rank P m me (S me)=if m.T=now then 20 else 22:=by unfold rank;rw [e]
    rw [this,if_pos c]
   have fin:∀ph:Ph,(ph=.c5 V now∨(ph=.c7 V (-1)∧∃x∈(S me).rd,x.1=P.s me (S me)∧V≠x.2)∨∃j,j<(S me).rd.length∧ph=.c4 V now j)→mu P { m with T:=now+1 } (upd S me { S me with ph:=ph })<mu P m S:=fun ph hp=>by
    refine mu_raise hm rfl rfl (by show m.T<now+1;omega) h ?_ ?_ ?_ ?_ ?_
    ·rw [e];rcases hp with rfl | ⟨rfl,_⟩ | ⟨j,_,rfl⟩ <;> rfl
    ·have:rN P me { S me with ph:=ph }=(P.n me:Int)-(S me).job:=by
      unfold rN;rcases hp with rfl | ⟨rfl,_⟩ | ⟨j,_,rfl⟩ <;> simp
     rw [this,rN_no (a:=S me) (by rw [e];rfl)];exact Int.le_refl _
    ·refine kN_me hm (fun j g=>upd_ot g) fun i hi _=>?_
     rw [upd_me,way_no (a:=S me) (by rw [e];rfl)]
     rcases hp with rfl | ⟨rfl,_⟩ | ⟨j,_,rfl⟩
     ·rfl
     ·show decide ((-1:Int)=i)=false
      exact decide_eq_false (by omega)
     ·rfl
    ·rcases hp with rfl | ⟨rfl,x,hx,x1,x2⟩ | ⟨j,_,rfl⟩
     ·rw [sN_live rfl,hsl];exact Int.le_refl _
     ·have hst:staleB m (S me).rd=true:=by
       unfold staleB
       rw [List.any_eq_true]
       refine⟨x,hx,?_⟩
       rw [x1,h6];simpa using x2
      rw [hsl,if_pos hst];exact sN_le.2
     ·rw [sN_live rfl,hsl];exact Int.le_refl _
    ·rw [hk]
     rcases hp with rfl | ⟨rfl,_⟩ | ⟨j,hj,rfl⟩
     ·show (3:Int)+5≤20;decide
     ·show (1:Int)+5≤20;decide
     ·show 4+5*(((S me).rd.length:Int)-j-1)+(S me).q+5≤20;omega
   by_cases c2:now=(S me).st
   ·simp only [if_pos c2];exact fin _ (.inl rfl)
   ·simp only [if_neg c2]
    refine fin _ ?_
    rcases proveP_is (s:=P.s me (S me)) (V:=V) (now:=now) (rd:=(S me).rd) (S me).rd 0 rfl with g | g | ⟨j,_,g1,_,g2⟩
    ·exact .inl g
    ·exact .inr (.inl g)
    ·exact .inr (.inr ⟨j,g1,g2⟩)
  ·simp only [if_neg c]
   refine mu_on hm ⟨rfl,rfl,rfl,rfl,rfl⟩ (by rw [e];rfl) rfl (by rw [e];rfl) (by rw [sN_live rfl,hsl];exact Int.le_refl _) ?_
   have:rank P m me (S me)=if m.T=now then 20 else 22:=by unfold rank;rw [e]
   rw [this,if_neg c]
   show (21:Int)<22;decide
 case c4 V now j =>
  simp only [Lo,e] at hlo
  obtain⟨⟨r1,r2,r3,r4,r5,r6⟩,h2,h3,h4,h5,h6,h7,h8,h9,h10⟩:=hlo
  simp only [stepT,stepS,relOf,e]
  have hsl:sN m (S me)=if staleB m (S me).rd=true then 1 else 0:=sN_live (by rw [e];rfl)
  have hk:rank P m me (S me)=4+5*(((S me).rd.length:Int)-j-1)+(S me).q:=by unfold rank;rw [e]
  have hj:(S me).rd[j]? = some (rdAt (S me) j):=by
   unfold rdAt
   rw [List.getD_eq_getElem?_getD,List.getElem?_eq_getElem h9];rfl
  have rn:∀b:Int,rN P me { S me with ph:=.c7 V b }≤rN P me (S me):=fun b=>by
   rw [rN_no (a:=S me) (by rw [e];rfl)];exact Int.le_of_eq (by unfold rN;simp)
  have h7':staleB m (S me).rd=true→mu P m (upd S me { S me with ph:=.c7 V (-1) })<mu P m S:=fun hst=>by
   refine mu_quiet hm rfl rfl (fun _ _=>rfl) (fun _=>rfl) (by rw [e];rfl) (rn _) (.inl ⟨kN_me hm (fun j g=>upd_ot g) fun i hi _=>?_,?_,?_⟩)
   ·rw [upd_me,way_no (a:=S me) (by rw [e];rfl)]
    show decide ((-1:Int)=i)=false
    exact decide_eq_false (by omega)
   ·rw [hsl,if_pos hst];exact sN_le.2
   ·rw [hsl,if_pos hst,hk]
    have h1:rank P m me { S me with ph:=.c7 V (-1) }=1:=rfl
    refine Int.lt_of_le_of_lt (Int.add_le_add_left (Int.mul_le_mul_of_nonneg_left sN_le.2 (by decide)) _) ?_
    rw [h1];omega
  by_cases c:(m.lk (rdAt (S me) j).1).held=true
  ·rw [if_pos c]
   obtain⟨o,g1,g2,g3,g4⟩:=h.heldBy _ c
   have gi:o≠me:=fun g=>by subst g;exact h10 g4.symm
   rcases wait_cases (S me) me (m.lk (rdAt (S me) j).1).owner (.c7 V (m.lk (rdAt (S me) j).1).owner) with ⟨e1,g⟩ | ⟨e1,g,g5⟩ | ⟨e1,g,g5⟩
   ·right;rw [e1,hSS];exact⟨trivial,rfl,.inr (.inr (.inl ⟨_,c,g⟩))⟩
   ·left
    rw [e1]
    refine mu_on hm ⟨rfl,rfl,rfl,rfl,rfl⟩ (by rw [e];rfl) (by show ways (S me).ph=false;rw [e];rfl) rfl (Int.le_of_eq (by unfold sN;rfl)) ?_
    have h1:rank P m me { S me with q:=(S me).q-1 }=4+5*(((S me).rd.length:Int)-j-1)+((S me).q-1):=by unfold rank;simp only [e]
    rw [h1,hk];omega
   ·left
    rw [e1]
    refine mu_quiet hm rfl rfl (fun _ _=>rfl) (fun _=>rfl) (by rw [e];rfl) (rn _) (.inr ⟨?_,?_,?_⟩)
    ·refine kN_way hm (fun j g=>upd_ot g) (o:=o) (by omega) g3 (fun i _=>way_no (by rw [e];rfl)) fun i hi=>?_
     rw [upd_me]
     show decide ((m.lk (rdAt (S me) j).1).owner=i)=decide (i=o)
     rw [g2]
     by_cases g:i=o
     ·subst g;simp
     ·rw [decide_eq_false g,decide_eq_false (by omega)]
    ·refine Int.le_trans sN_le.2 ?_
     have:=sN_le (m:=m) (a:=S me)
     omega
    ·have h1:rank P m me { S me with ph:=.c7 V (m.lk (rdAt (S me) j).1).owner }=1:=rfl
     have:=sN_le (m:=m) (a:=S me)
     refine Int.lt_of_le_of_lt (Int.add_le_add_left (Int.mul_le_mul_of_nonneg_left sN_le.2 (by decide)) _) ?_
     rw [h1,hk];omega
  ·rw [if_neg c]
   left
   by_cases c2:(m.lk (rdAt (S me) j).1).version≠(rdAt (S me) j).2
   ·rw [if_pos c2]
    refine h7' ?_
    unfold staleB
    rw [List.any_eq_true]
    exact⟨_,List.mem_of_getElem? hj,by simpa using c2⟩
   ·rw [if_neg c2]
    rcases proveP_is (s:=P.s me (S me)) (V:=V) (now:=now) (rd:=(S me).rd) _ (j+1) rfl with g | ⟨g,x,hx,x1,x2⟩ | ⟨i,i1,i2,_,g⟩
    ·rw [g]
     refine mu_on hm ⟨rfl,rfl,rfl,rfl,rfl⟩ (by rw [e];rfl) rfl (by rw [e];rfl) (by rw [sN_live rfl,hsl];exact Int.le_refl _) ?_
     rw [hk];show (3:Int)<_;omega
    ·rw [g]
     refine h7' ?_
     unfold staleB
     rw [List.any_eq_true]
     refine⟨x,hx,?_⟩
     rw [x1,h6];simpa using x2
    ·rw [g]
     refine mu_on hm ⟨rfl,rfl,rfl,rfl,rfl⟩ (by rw [e];rfl) rfl (by rw [e];rfl) (by rw [sN_live rfl,hsl];exact Int.le_refl _) ?_
     rw [hk];show 4+5*(((S me).rd.length:Int)-i-1)+(S me).q<_;omega
 case go e' b =>
  left
  simp only [Lo,e] at hlo
  obtain⟨h1,h2,h3,h4,h5⟩:=hlo
  simp only [stepT,stepS,relOf,e]
  have hk:=rank_go (P:=P) (m:=m) (i:=me) e
  have hrn:rN P me (S me)=(P.n me:Int)-(S me).job-(if e'=2 then 1 else 0):=by unfold rN;rw [e]
  have go:∀b':AT,hold b'.ph=false→rN P me b'≤rN P me (S me)→(∀i:Nat,i<me→way m b' i=way m (S me) i)→sN m b'=0→rank P m me b'<rank P m me (S me)+69*sN m (S me)→mu P { m with e:=upd m.e me 0 } (upd S me b')<mu P m S:=fun b' g1 g2 g3 g4 g5 =>
   mu_quiet hm rfl rfl (fun _ g=>upd_ot g) (fun g=>by rw [e] at g;cases g) (by rw [e,g1];rfl) g2 (.inl ⟨kN_me hm (fun j g=>upd_ot g) fun i hi _=>by
    rw [upd_me,←g3 i hi]
    exact way_e (upd_ot (by omega)),by rw [g4];exact sN_le.1,by rw [g4];omega⟩)
  unfold ended
  rcases h5 with h5 | ⟨h5,h6⟩ | ⟨h5,h6,h7,h8⟩
  ·subst h5
   rw [if_neg (by decide),if_neg (by decide)]
   rw [if_neg (by decide),if_neg (by decide)] at hk
   rw [if_pos rfl] at hrn
   have hs:=sN_le (m:=m) (a:=S me)
   by_cases c:(S me).job+1=P.n me
   ·rw [if_pos c]
    refine go _ rfl ?_ (fun i _=>by rw [way_go e];rfl) (sN_dead rfl rfl) ?_
    ·rw [hrn,rN_no rfl];show (P.n me:Int)-((S me).job+1:Nat)≤_;omega
    ·rw [hk];show (0:Int)<_;omega
   ·rw [if_neg c]
    refine go _ rfl ?_ (fun i _=>by rw [way_go e];rfl) (sN_dead rfl rfl) ?_
    ·rw [hrn,rN_no rfl];show (P.n me:Int)-((S me).job+1:Nat)≤_;omega
    ·rw [hk,rank_coming rfl];omega
  ·subst h5
   rw [if_pos rfl]
   rw [if_neg (by decide),if_pos rfl] at hk
   rw [if_neg (by decide)] at hrn
   have hs:=sN_le (m:=m) (a:=S me)
   by_cases c:0≤b∧b<3
   ·rw [if_pos c]
    rw [if_pos c.1] at hk
    refine go _ rfl ?_ (fun i _=>?_) (sN_dead rfl rfl) ?_
    ·rw [hrn];exact Int.le_of_eq (by unfold rN;simp)
    ·rw [way_go e,way_yld rfl];simp
    ·rw [hk];show (72:Int)<_;omega
   ·rw [if_neg c]
    have hb:b=-1:=by omega
    rw [if_neg (by omega)] at hk
    obtain⟨q1,q2,q3,q4,q5⟩:=pausing_mu (P:=P) (m:=m) (me:=me) (a:=S me) p0 p8
    refine go _ q3 ?_ (fun i _=>?_) q4 ?_
    ·rw [hrn,rN_no q2,q5];omega
    ·rw [way_go e,way_no q2,hb,decide_eq_false (p:=(-1:Int)=i) (by omega)];rfl
    ·rw [hk];omega
  ·subst h5
   rw [if_neg (by decide),if_pos rfl]
   rw [if_pos rfl] at hk
   rw [if_neg (by decide)] at hrn
   have hs:=sN_le (m:=m) (a:=S me)
   cases hal:(S me).al
   ·rw [if_neg (by decide)]
    refine go _ rfl ?_ (fun i _=>by rw [way_go e];rfl) (sN_dead rfl rfl) ?_
    ·rw [hrn,rN_no rfl];show (P.n me:Int)-(S me).job≤_;omega
    ·rw [hk];show (0:Int)<_;omega
   ·rw [if_pos rfl]
    have hst:staleB m (S me).rd=true:=by
     obtain⟨x,hx,g⟩:=h7 hal
     unfold staleB
     rw [List.any_eq_true]
     exact⟨x,hx,by simpa [Cur] using g⟩
    have hs1:sN m (S me)=1:=by rw [sN_live (by rw [e];rfl),if_pos hst]
    refine go _ rfl ?_ (fun i _=>by rw [way_go e];rfl) (sN_dead rfl rfl) ?_
    ·rw [hrn,rN_no rfl];show (P.n me:Int)-(S me).job≤_;omega
    ·rw [hk,hs1,rank_coming rfl];decide
 case pause p' =>
  left
  simp only [Lo,e] at hlo
  obtain⟨h1,h2,h3,h4⟩:=hlo
  simp only [stepT,stepS,relOf,e]
  have hk:rank P m me (S me)=61+p':=by unfold rank;rw [e]
  have go:∀b':AT,hold b'.ph=false→ways b'.ph=false→b'.job=(S me).job→sN m b'=0→rank P m me b'<rank P m me (S me)→mu P m (upd S me b')<mu P m S:=fun b' g1 g2 g3 g4 g5 =>
   mu_quiet hm rfl rfl (fun _ _=>rfl) (fun _=>rfl) (by rw [e,g1];rfl) (by rw [rN_no g2,rN_no (a:=S me) (by rw [e];rfl),g3];exact Int.le_refl _) (.inl ⟨kN_no hm (by rw [e];rfl) g2,by rw [g4];exact sN_le.1,by rw [g4];have:=sN_le (m:=m) (a:=S me);omega⟩)
  by_cases c:p'=1
  ·rw [if_pos c]
   exact go _ rfl rfl rfl (sN_dead rfl rfl) (by rw [hk,rank_coming rfl];omega)
  ·rw [if_neg c]
   exact go _ rfl rfl rfl (sN_dead rfl rfl) (by rw [hk];show 61+(p'-1)<_;omega)
 case c6 V now =>
  left
  simp only [Lo,e] at hlo
  obtain⟨h1,h2,h3,h4,h5,h6⟩:=hlo
  simp only [stepT,stepS,relOf,e] at hi ⊢
  refine mu_event h hi (evs_le hm (d:=1) (c:=0) (r:=1) (x:=1) (y:=0) (.inr (.inl ⟨rfl,rfl,rfl,rfl,rfl⟩)) (fun j _ hj=>?_) (fun j _ hj=>?_) (fun j _ hj=>?_) (fun i j _ hi' _ g=>?_) (fun j g=>?_) (fun _=>?_) ?_ ?_ ?_)
  ·simp only [if_neg hj];exact rN_wake
  ·simp only [if_neg hj];exact hold_wake
  ·have g1:=sN_le (m:=m) (a:=S j)
   have g2:=sN_le (m:={ m with lk:=upd m.lk (P.s me (S me)) ⟨now+1,false,0⟩ }) (a:=if j=me then { S me with ph:=.go 2 (-1) } else wakeT (S j) (P.s me (S me)) (now+1))
   refine Int.le_trans g2.2 ?_
   omega
  ·simp only [if_neg hi']
   rw [way_wake,way_e rfl];exact g
  ·rw [way_no (a:=S me) (by rw [e];rfl)] at g;cases g
  ·simp only [if_pos];rfl
  ·simp only [if_pos]
   rw [rN_no (a:=S me) (by rw [e];rfl)]
   have:rN P me { S me with ph:=.go 2 (-1) }=(P.n me:Int)-(S me).job-1:=rfl
   rw [this];omega
  ·simp only [if_pos]
   rw [hN_eq (a:=S me) (x:=true) (by rw [e];rfl),hN_eq (x:=false) rfl];rfl
  ·simp only [if_pos]
   rw [sN_dead (a:={ S me with ph:=.go 2 (-1) }) rfl rfl]
   exact sN_le.1
 case c7 V b =>
  left
  simp only [Lo,e] at hlo
  obtain⟨h1,h2,h3,h4,h5,h6⟩:=hlo
  simp only [stepT,stepS,relOf,e] at hi ⊢
  have hv:∀s,(({ m with lk:=upd m.lk (P.s me (S me)) ⟨V,false,0⟩ }:AM).lk s).version=(m.lk s).version:=fun s=>by
   show (upd m.lk (P.s me (S me)) ⟨V,false,0⟩ s).version=_
   by_cases c:s=P.s me (S me)
   ·subst c;rw [upd_me,h5]
   ·rw [upd_ot c]
  refine mu_event h hi (evs_le hm (d:=0) (c:=0) (r:=0) (x:=1) (y:=1) (.inr (.inr ⟨rfl,rfl,rfl,rfl,rfl⟩)) (fun j _ hj=>?_) (fun j _ hj=>?_) (fun j _ hj=>?_) (fun i j _ hi' _ g=>?_) (fun j g=>?_) (fun _=>?_) ?_ ?_ ?_)
  ·simp only [if_neg hj];exact rN_wake
  ·simp only [if_neg hj];exact hold_wake
  ·simp only [if_neg hj]
   rw [sN_ver hv,Int.add_zero];exact sN_wake
  ·simp only [if_neg hi']
   rw [way_wake,way_e rfl];exact g
  ·simp only [if_pos]
   rw [way_go rfl]
   have:way m (S me) j=decide (b=j):=by unfold way;rw [e]
   rw [this] at g;simpa using g
  ·simp only [if_pos];rfl
  ·simp only [if_pos]
   have g1:rN P me { S me with ph:=.go 5 b }=(P.n me:Int)-(S me).job-0:=rfl
   have g2:rN P me (S me)=(P.n me:Int)-(S me).job-0:=by unfold rN;rw [e]
   rw [g1,g2];exact Int.le_of_eq (Int.add_zero _)
  ·simp only [if_pos]
   rw [hN_eq (a:=S me) (x:=true) (by rw [e];rfl),hN_eq (x:=false) rfl];rfl
  ·simp only [if_pos]
   rw [sN_dead (a:={ S me with ph:=.go 5 b }) rfl rfl]
   have:sN m (S me)=1:=by unfold sN;rw [e];rfl
   rw [this];decide
 case yld b since y =>
  simp only [Lo,e] at hlo
  obtain⟨h1,h2,h3,h4⟩:=hlo
  simp only [stepT,stepS,relOf,e]
  have hk:rank P m me (S me)=if y=true then 71 else 72:=by unfold rank;rw [e]
  have hrn:rN P me (S me)=(P.n me:Int)-(S me).job-0:=by unfold rN;rw [e]
  by_cases c:m.e b.toNat≠0∧(y=false∨m.e b.toNat=since)
  ·rw [if_pos c]
   cases y with
   | true =>
    right
    have hs:m.e b.toNat=since:=by rcases c.2 with g | g;cases g;exact g
    have:({ S me with ph:=.yld b (m.e b.toNat) true }:AT)=S me:=by
     cases hS:S me with
     | mk ph job st q sec rd al=>rw [hS] at e;simp only at e;rw [e,hs]
    rw [this,hSS]
    exact⟨trivial,rfl,.inr (.inr (.inr ⟨b,since,true,e,c.1⟩))⟩
   | false =>
    left
    refine mu_quiet hm rfl rfl (fun _ _=>rfl) (fun _=>rfl) (by rw [e];rfl) (by rw [hrn];exact Int.le_of_eq (by unfold rN;rfl)) (.inl ⟨kN_me hm (fun j g=>upd_ot g) fun i hi _=>?_,?_,?_⟩)
    ·rw [upd_me,way_yld e,way_yld rfl]
     by_cases g:b=i
     ·subst g;simp
     ·rw [decide_eq_false g];rfl
    ·rw [sN_dead (a:={ S me with ph:=.yld b (m.e b.toNat) true }) rfl rfl];exact sN_le.1
    ·rw [sN_dead (a:={ S me with ph:=.yld b (m.e b.toNat) true }) rfl rfl,hk]
     have:=sN_le (m:=m) (a:=S me)
     have g:rank P m me { S me with ph:=.yld b (m.e b.toNat) true }=71:=rfl
     rw [g,if_neg (by decide)];omega
  ·rw [if_neg c]
   left
   obtain⟨q1,q2,q3,q4,q5⟩:=pausing_mu (P:=P) (m:=m) (me:=me) (a:=S me) p0 p8
   refine mu_quiet hm rfl rfl (fun _ _=>rfl) (fun _=>rfl) (by rw [e];exact q3) (by rw [hrn,rN_no q2,q5];omega) (.inl ⟨kN_me hm (fun j g=>upd_ot g) fun i hi hh=>?_,?_,?_⟩)
   ·rw [upd_me,way_no q2,way_yld e]
    symm
    by_cases g:b=i
    ·subst g
     have he:1≤m.e i:=by
      have hl:=h.lo i (by omega)
      cases ep:(S i).ph <;> rw [ep] at hh <;> simp only [hold,Bool.false_eq_true] at hh <;> simp only [Lo,ep,Run] at hl <;> omega
     have:((i:Int)).toNat=i:=rfl
     rw [this] at c
     cases y with
     | false=>exact absurd ⟨by omega,.inl rfl⟩ c
     | true =>
      have:since≠m.e i:=fun g=>c ⟨by omega,.inr g.symm⟩
      rw [decide_eq_false this];simp
    ·rw [decide_eq_false g];rfl
   ·rw [q4];exact sN_le.1
   ·rw [q4,hk]
    have:=sN_le (m:=m) (a:=S me)
    split <;> omega
def round3 (P:Pr)(m:AM)(S:Nat→AT)(p0 p1 p2:Int):AM×(Nat→AT) :=
 let r0:=stepT P 0 m (S 0) p0
 let S0:=stepS P 0 S r0.2
 let r1:=stepT P 1 r0.1 (S0 1) p1
 let S1:=stepS P 1 S0 r1.2
 let r2:=stepT P 2 r1.1 (S1 2) p2
 (r2.1,stepS P 2 S1 r2.2)
def Rest (S:Nat→AT):Prop:=∀i,i<3→(S i).ph=.wait∨(S i).ph=.fin
theorem stuck_rest (h:Inv P m S)(h0:Stuck m S 0)(h1:Stuck m S 1)(h2:Stuck m S 2):Rest S:=by
 have hold_e:∀i,i<3→((S i).ph=.wait∨(S i).ph=.fin)→m.e i=0:=fun i hi g=>by
  have hl:=h.lo i hi
  rcases g with g | g <;> simp only [Lo,g] at hl <;> omega
 have owner:∀s,(m.lk s).held=true→∃o:Nat,o<3∧(m.lk s).owner=o∧hold (S o).ph=true:=fun s g=>by
  obtain⟨i,g1,g2,g3,_⟩:=h.heldBy s g
  exact⟨i,g1,g2,g3⟩
 have yl:∀i,i<3→∀b since y,(S i).ph=.yld b since y→0≤b∧b<i:=fun i hi b since y g=>by
  have hl:=h.lo i hi
  simp only [Lo,g] at hl;omega
 have k2:(S 2).ph=.fin∨(S 2).ph=.wait∨∃b since y,(S 2).ph=.yld b since y∧m.e b.toNat≠0:=by
  rcases h2 with g | g | ⟨s,g1,g2⟩ | g
  ·exact .inl g
  ·exact .inr (.inl g)
  ·obtain⟨o,o1,o2,_⟩:=owner s g1
   omega
  ·exact .inr (.inr g)
 have n2:hold (S 2).ph=false:=by rcases k2 with g | g | ⟨b,since,y,g,_⟩ <;> rw [g] <;> rfl
 have k1:(S 1).ph=.fin∨(S 1).ph=.wait∨∃b since y,(S 1).ph=.yld b since y∧m.e b.toNat≠0:=by
  rcases h1 with g | g | ⟨s,g1,g2⟩ | g
  ·exact .inl g
  ·exact .inr (.inl g)
  ·obtain⟨o,o1,o2,o3⟩:=owner s g1
   have:o=2:=by omega
   subst this
   rw [n2] at o3;cases o3
  ·exact .inr (.inr g)
 have n1:hold (S 1).ph=false:=by rcases k1 with g | g | ⟨b,since,y,g,_⟩ <;> rw [g] <;> rfl
 have r0:(S 0).ph=.wait∨(S 0).ph=.fin:=by
  rcases h0 with g | g | ⟨s,g1,g2⟩ | ⟨b,since,y,g,_⟩
  ·exact .inr g
  ·exact .inl g
  ·obtain⟨o,o1,o2,o3⟩:=owner s g1
   have:o=1∨o=2:=by omega
   rcases this with rfl | rfl
   ·rw [n1] at o3;cases o3
   ·rw [n2] at o3;cases o3
  ·have:=yl 0 (by decide) _ _ _ g;omega
 have e0:=hold_e 0 (by decide) r0
 have r1:(S 1).ph=.wait∨(S 1).ph=.fin:=by
  rcases k1 with g | g | ⟨b,since,y,g,g2⟩
  ·exact .inr g
  ·exact .inl g
  ·have:=yl 1 (by decide) _ _ _ g
   have:b.toNat=0:=by omega
   rw [this] at g2;exact absurd e0 g2
 have e1:=hold_e 1 (by decide) r1
 have r2:(S 2).ph=.wait∨(S 2).ph=.fin:=by
  rcases k2 with g | g | ⟨b,since,y,g,g2⟩
  ·exact .inr g
  ·exact .inl g
  ·have:=yl 2 (by decide) _ _ _ g
   have:b.toNat=0∨b.toNat=1:=by omega
   rcases this with e | e <;> rw [e] at g2
   ·exact absurd e0 g2
   ·exact absurd e1 g2
 intro i hi
 have:i=0∨i=1∨i=2:=by omega
 rcases this with rfl | rfl | rfl
 ·exact r0
 ·exact r1
 ·exact r2
theorem round_mu {p0 p1 p2:Int}(hP:PrOk P)(h:Inv P m S)(h0:0≤p0∧p0≤8)(h1:0≤p1∧p1≤8)(h2:0≤p2∧p2≤8)(hn:¬Rest S) :
  Inv P (round3 P m S p0 p1 p2).1 (round3 P m S p0 p1 p2).2∧mu P (round3 P m S p0 p1 p2).1 (round3 P m S p0 p1 p2).2<mu P m S:=by
 unfold round3
 have s0:=step_mu hP (by decide:0<3) h h0.1 h0.2
 have i0:=step_inv hP (by decide:0<3) h h0.1 h0.2
 simp only at s0 i0 ⊢
 generalize stepT P 0 m (S 0) p0=r0 at *
 generalize stepS P 0 S r0.2=S0 at *
 have s1:=step_mu hP (by decide:1<3) i0 h1.1 h1.2
 have i1:=step_inv hP (by decide:1<3) i0 h1.1 h1.2
 generalize stepT P 1 r0.1 (S0 1) p1=r1 at *
 generalize stepS P 1 S0 r1.2=S1 at *
 have s2:=step_mu hP (by decide:2<3) i1 h2.1 h2.2
 have i2:=step_inv hP (by decide:2<3) i1 h2.1 h2.2
 generalize stepT P 2 r1.1 (S1 2) p2=r2 at *
 generalize stepS P 2 S1 r2.2=S2 at *
 refine⟨i2,?_⟩
 rcases s0 with s0 | ⟨a0,b0,c0⟩
 ·rcases s1 with s1 | ⟨a1,b1,c1⟩
  ·rcases s2 with s2 | ⟨a2,b2,c2⟩
   ·omega
   ·rw [a2,b2];omega
  ·rw [a1,b1] at s2
   rcases s2 with s2 | ⟨a2,b2,c2⟩
   ·omega
   ·rw [a2,b2];exact s0
 ·rw [a0,b0] at s1
  rcases s1 with s1 | ⟨a1,b1,c1⟩
  ·rcases s2 with s2 | ⟨a2,b2,c2⟩
   ·omega
   ·rw [a2,b2];exact s1
  ·rw [a1,b1] at s2
   rcases s2 with s2 | ⟨a2,b2,c2⟩
   ·exact s2
   ·exact absurd (stuck_rest h c0 c1 c2) hn
theorem mu_bound (h:Inv P m S)(hR:(P.n 0:Int)+P.n 1+P.n 2≤18):0≤mu P m S∧mu P m S<200000:=by
 have h1:=lam_le h
 have r:∀i,i<3→hN (S i)≤rN P i (S i)∧rN P i (S i)≤P.n i:=fun i hi=>by
  have hl:=h.lo i hi
  have h2:=hN_le (a:=S i)
  by_cases c:(S i).job<P.n i
  ·unfold rN hN
   cases e:(S i).ph <;> simp only [hold,Bool.false_eq_true,if_true,if_false] <;> (repeat' split) <;> omega
  ·have e:(S i).ph=.fin:=by
    cases e:(S i).ph <;> simp only [Lo,e,Run] at hl <;> first | rfl | (exfalso;omega)
   simp only [Lo,e] at hl
   rw [rN_no (by rw [e];rfl),hN_eq (x:=false) (by rw [e];rfl)]
   simp only [Bool.false_eq_true,if_false]
   omega
 have a0:=r 0 (by decide);have a1:=r 1 (by decide);have a2:=r 2 (by decide)
 have b0:=sN_le (m:=m) (a:=S 0)
 have b1:=sN_le (m:=m) (a:=S 1)
 have b2:=sN_le (m:=m) (a:=S 2)
 have c1:=kap_le (m:=m) (a:=S 1) (j:=0) (b:=S 0)
 have c2:=kap_le (m:=m) (a:=S 2) (j:=0) (b:=S 0)
 have c3:=kap_le (m:=m) (a:=S 2) (j:=1) (b:=S 1)
 have d0:=hN_le (a:=S 0)
 have d1:=hN_le (a:=S 1)
 have d2:=hN_le (a:=S 2)
 unfold mu evs
 rw [kN_0,kN_1,kN_2]
 omega
theorem rest_zero (h:Inv P m S)(hr:Rest S){i:Nat}(hi:i<3):((S i).ph=.wait→(S i).job<P.n i∧(P.job i (S i).job).tk=true∧∀sec,m.w (place (P.job i (S i).job) sec)=0)∧((S i).ph=.fin→(S i).job=P.n i):=by
 have hl:=h.lo i hi
 refine⟨fun e=>?_,fun e=>?_⟩
 ·simp only [Lo,e] at hl
  obtain⟨h1,h2,h3,h4,⟨k1,k2,k3,k4⟩,h6⟩:=hl
  refine⟨h1,k1,fun sec=>?_⟩
  obtain⟨v,g1,g2⟩:=k4 sec
  exact g2 (h6 _ g1) fun k hk _ hs=>by rcases hr k hk with g | g <;> rw [g] at hs <;> cases hs
 ·simp only [Lo,e] at hl;exact hl.1
end
end Go.Proofs.YtoealglbimbbmaaGreatDoor.S.Tw
