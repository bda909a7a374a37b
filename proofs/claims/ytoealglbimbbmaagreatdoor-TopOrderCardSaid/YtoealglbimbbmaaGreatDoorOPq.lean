import Derived.Test.YtoealglbimbbmaaGreatDoorOPp
import Derived.Test.YtoealglbimbbmaaGreatDoorOPl
namespace Go.Proofs.YtoealglbimbbmaaGreatDoor.S
open Go Go.Proofs
set_option linter.unusedVariables false
set_option linter.unusedSimpArgs false
structure QX (S:eO)(h0:Hp)(n:Nat)(G:Gs)(nw j:Nat)(a:Ta):Prop where
 all:∃rd,qR (iq S) h0 n G j a.at_ rd a.reads
 at_:a.at_≤G.T
 inr:∀r∈a.reads,1≤r.place∧r.place<nw
 inc:∀c∈a.cells,1≤c.place∧c.place<nw
 few:a.reads.length≤256∧a.cells.length≤96
structure TB (S:eO)(h0:Hp)(n:Nat)(G:Gs)(nl nw i:Nat)(pk d:Int)(x:co):Prop where
 me:x.me=i
 s:x.s=S
 few:x.jobs.length≤6
 prog:∀p∈x.jobs,p.length≤1000∧∀k∈p,k.op≠23
 job:0≤x.job∧x.job≤x.jobs.length
 past:∀a∈x.past,QX S h0 n G nw n a
 pastn:(x.past.length:Int)≤pk
 lim:x.limbo.length+x.rests.length≤1000*x.res.length
 res:(x.res.length:Int)≤x.job+d
 sw:x.sweep=false→x.rests=[]
def zo (x:co):Hx:=match x.now with
 | some a=>Co a.inn
 | none=>sF
structure pn (S:eO)(h0:Hp)(n:Nat)(G:Gs)(nl nw i:Nat)(pk:Int)(x:co):Prop where
 b:TB S h0 n G nl nw i pk (if x.sweep=true∨x.state=5 then 1 else 0) x
 st:1≤x.state∧x.state≤6
 job:x.state≠6→x.job<x.jobs.length
 run:x.state=1→∃a,x.now=some a∧jq S h0 n G nl nw i a∧a.state≠8∧(a.begun=true→0<x.born∧x.born≤pk)∧(x.sweep=false→a.run.isSome=true)
 rest:x.state≠1→∀a,x.now=some a→a.rd.length≤16∧Co a.inn=sF
 ps:x.state=3→1≤x.pauses∧x.pauses≤100
 sl:x.state=5→(x.slots.length:Int)<S.threads∧x.sweep=false
section
variable {S:eO}{h0:Hp}{n me i nl nw:Nat}{G G':Gs}{m m':gn}{L:tW}{X:Nat→Hx}{x:co}{pk d:Int}
theorem QX.tr {j:Nat}{a:Ta}(h:QX S h0 n G nw j a)(hg:z8 (iq S) h0 n me G G')(hm:me<n)(hne:j≠me):QX S h0 n G' nw j a:=by
 obtain⟨rd,h1⟩:=h.all
 exact⟨⟨rd,fun p hp=>hg.good hm hne h.at_ (h1.good p hp),h1.in_⟩,Int.le_trans h.at_ hg.T,h.inr,h.inc,h.few⟩
theorem TB.tr (h:TB S h0 n G nl nw i pk d x)(hg:z8 (iq S) h0 n me G G')(hm:me<n):TB S h0 n G' nl nw i pk d x :=
 ⟨h.me,h.s,h.few,h.prog,h.job,fun a ha=>(h.past a ha).tr hg hm (by omega),h.pastn,h.lim,h.res,h.sw⟩
theorem TB.mono {pk':Int}(h:TB S h0 n G nl nw i pk d x)(hp:pk≤pk'):TB S h0 n G nl nw i pk' d x :=
 ⟨h.me,h.s,h.few,h.prog,h.job,h.past,Int.le_trans h.pastn hp,h.lim,h.res,h.sw⟩
theorem pn.tr (h:pn S h0 n G nl nw i pk x)(hg:z8 (iq S) h0 n me G G')(hm:me<n)(hne:i≠me):pn S h0 n G' nl nw i pk x :=
 ⟨h.b.tr hg hm,h.st,h.job,fun g=>(by obtain⟨a,a1,a2,a3⟩:=h.run g;exact⟨a,a1,a2.tr hg hm hne,a3⟩),h.rest,h.ps,h.sl⟩
theorem pn.mono {pk':Int}(h:pn S h0 n G nl nw i pk x)(hp:pk≤pk'):pn S h0 n G nl nw i pk' x :=
 ⟨h.b.mono hp,h.st,h.job,fun g=>(by obtain⟨a,a1,a2,a3,a4,a5⟩:=h.run g;exact⟨a,a1,a2,a3,fun g=>⟨(a4 g).1,Int.le_trans (a4 g).2 hp⟩,a5⟩),h.rest,h.ps,h.sl⟩
theorem G8 (hS:ig S n nl nw){r:Option fm}{bs:List Int}(hb:bs.length≤100000)(hr:∀q,r=some q→q.fin=0∧∀s:fR,s.l.frees=[]→Mc q s):jq S h0 n G nl nw i { qt i S with run:=r,blocks:=bs }:=by
 have hl:=hS.lo
 have hw:(dj S).words.toNat=nw:=by rw [hS.hs,hS.nw];rfl
 refine⟨rfl,hS.hs,⟨by simp,by simp⟩,⟨uA.new,fun r hr c hc=>?_⟩,⟨by show 32≤(dj S).words.toNat;omega,by show (dj S).words.toNat≤256;omega,by simp,by simp⟩,hw,⟨by simp,by simp⟩,⟨hb,Nat.zero_le _⟩,fun _=>⟨fun q hq=>⟨(hr q hq).2 _ rfl,(hr q hq).1⟩,fun _=>by simp [kh.frees,fS]⟩,fun g=>?_,rfl,fun g=>by simp at g,fun _=>rfl,fun _=>⟨rfl,rfl,rfl⟩,fun g=>by simp at g,fun g=>by simp at g,fun g=>by simp at g,fun g=>by simp at g,fun c hc=>(by cases hc),fun g=>by simp at g⟩
 ·simp at hr;subst hr;cases hc
 ·rcases g with g | g <;> simp at g
theorem R6 {p:List bu}{fuel:Int}(hp:∀k∈p,k.op≠23)(s:fR)(hs:s.l.frees=[]):Mc (BG p fuel) s:=fun _ hb=>by
 have:=ft (n:=fuel) (show (0:Int)≤400 by decide)
 exact⟨hb,rfl,⟨Int.le_refl _,by simp⟩,rfl,by simp,List.Pairwise.nil,by simp,by simp,this,by rw [hs];simpa using this.2,hp⟩
theorem P0 (hS:ig S n nl nw)(h:TB S h0 n G nl nw i pk (if x.sweep=true then 1 else 0) x):pn S h0 n G nl nw i pk (gb x)∧(gb x).past=x.past∧em (gb x)=x.past∧zo (gb x)=sF:=by
 have h1:=h.res
 have h2:=h.job
 have h3:=h.few
 have h4:=h.lim
 have hrb:x.rests.length≤100000:=by split at h1 <;> omega
 unfold gb
 cases hj:x.jobs[x.job.toNat]? with
 | none =>
  have hge:=List.getElem?_eq_none_iff.1 hj
  have e:x.job=x.jobs.length:=by omega
  refine⟨⟨?_,⟨by simp,by simp⟩,fun g=>absurd rfl g,fun g=>by simp at g,fun _ a ha=>(by cases ha),fun g=>by simp at g,fun g=>by simp at g⟩,rfl,by simp [em],rfl⟩
  have e2:(if x.sweep=true∨(6:Int)=5 then (1:Int) else 0)=if x.sweep=true then 1 else 0:=by simp
  show TB S h0 n G nl nw i pk (if x.sweep=true∨(6:Int)=5 then 1 else 0) _
  rw [e2]
  exact⟨h.me,h.s,h.few,h.prog,h.job,h.past,h.pastn,h.lim,h.res,h.sw⟩
 | some p =>
  have hlt:=(List.getElem?_eq_some_iff.1 hj).1
  have hmem:=List.mem_of_getElem? hj
  have e2:(if x.sweep=true∨(1:Int)=5 then (1:Int) else 0)=if x.sweep=true then 1 else 0:=by simp
  have hA:jq S h0 n G nl nw i (if x.sweep=true then iz x.me x.s (x.rests.map (·.place)) else kV x.me x.s p):=by
   rw [h.me,h.s]
   split
   ·exact G8 hS (by rw [List.length_map];exact hrb) (fun q hq=>(by cases hq))
   ·exact G8 hS (by simp) (fun q hq=>(by cases hq;exact⟨rfl,fun s hs=>R6 (h.prog p hmem).2 s hs⟩))
  have hA0:(if x.sweep=true then iz x.me x.s (x.rests.map (·.place)) else kV x.me x.s p).begun=false∧(if x.sweep=true then iz x.me x.s (x.rests.map (·.place)) else kV x.me x.s p).state=0∧(if x.sweep=true then iz x.me x.s (x.rests.map (·.place)) else kV x.me x.s p).inn=.none∧(x.sweep=false→(if x.sweep=true then iz x.me x.s (x.rests.map (·.place)) else kV x.me x.s p).run.isSome=true):=by
   by_cases g:x.sweep=true
   ·simp only [if_pos g];exact⟨trivial,trivial,trivial,fun g2=>by rw [g] at g2;cases g2⟩
   ·simp only [if_neg g];exact⟨trivial,trivial,trivial,fun _=>rfl⟩
  simp only
  generalize (if x.sweep=true then iz x.me x.s (x.rests.map (·.place)) else kV x.me x.s p)=a at hA hA0
  obtain⟨b1,b2,b3,b4⟩:=hA0
  refine⟨⟨?_,⟨by simp,by simp⟩,fun _=>by show x.job<x.jobs.length;omega,fun _=>⟨a,rfl,hA,by rw [b2];decide,fun g=>(by rw [b1] at g;cases g),b4⟩,fun g=>absurd rfl g,fun g=>by simp at g,fun g=>by simp at g⟩,by trivial,by simp [em,b1],by show Co a.inn=sF;rw [b3];rfl⟩
  show TB S h0 n G nl nw i pk (if x.sweep=true∨(1:Int)=5 then 1 else 0) _
  rw [e2]
  exact⟨h.me,h.s,h.few,h.prog,h.job,h.past,h.pastn,h.lim,h.res,h.sw⟩
structure Cj (S:eO)(h0:Hp)(n:Nat)(G:Gs)(nl nw i:Nat)(pk:Int)(P:List Ta)(z:co):Prop where
 inv:pn S h0 n G nl nw i pk z
 past:z.past=P
 told:em z=P
 hx:zo z=sF
theorem nE (hS:ig S n nl nw)(h:TB S h0 n G nl nw i pk (if x.sweep=true then 1 else 0) x):Cj S h0 n G nl nw i pk x.past (gb x):=by
 obtain⟨a,b,c,d⟩:=P0 hS h;exact⟨a,b,c,d⟩
theorem tz (hS:ig S n nl nw)(h:TB S h0 n G nl nw i pk 1 x)(hj:x.job<x.jobs.length):Cj S h0 n G nl nw i pk x.past (iA x):=by
 have h1:=h.res
 have h2:=h.lim
 have h3:=h.job
 refine nE (x:={ x with job:=x.job+1,sweep:=false,rests:=[],tries:=0,conf:=0 }) hS ?_
 exact⟨h.me,h.s,h.few,h.prog,⟨by show 0≤x.job+1;omega,by show x.job+1≤x.jobs.length;omega⟩,h.past,h.pastn,by show x.limbo.length+0≤1000*x.res.length;omega,by show (x.res.length:Int)≤x.job+1+_;simp only [Bool.false_eq_true,if_false];omega,fun _=>rfl⟩
theorem Qm {c draw:Int}(h:0≤draw):0≤pY c draw∧pY c draw≤100:=by
 have h1:∀k:Nat,1≤lS k∧lS k≤8:=fun k=>by
  induction k with
  | zero=>simp [lS]
  | succ k ih=>unfold lS;split <;> omega
 have:=h1 (wA c).toNat
 have h2:=Int.tmod_nonneg (lS (wA c).toNat+1) h
 have h3:=Int.tmod_lt_of_pos draw (show 0<lS (wA c).toNat+1 by omega)
 exact⟨h2,by show draw.tmod _≤100;omega⟩
theorem HF (hS:ig S n nl nw){draw:Int}(hd:0≤draw)(h:TB S h0 n G nl nw i pk (if x.sweep=true then 1 else 0) x)(hj:x.job<x.jobs.length)(hn:∀a,x.now=some a→a.rd.length≤16∧Co a.inn=sF):Cj S h0 n G nl nw i pk x.past (oT x draw):=by
 have hp:=Qm (c:=x.conf) hd
 show Cj S h0 n G nl nw i pk x.past (if pY x.conf draw=0 then _ else _)
 split
 ·exact nE (x:={ x with pauses:=0,state:=3 }) hS ⟨h.me,h.s,h.few,h.prog,h.job,h.past,h.pastn,h.lim,h.res,h.sw⟩
 ·rename_i g
  refine⟨⟨?_,⟨by simp,by simp⟩,fun _=>hj,fun g=>by simp at g,fun _=>hn,fun _=>⟨by show 1≤pY _ _;omega,hp.2⟩,fun g=>by simp at g⟩,rfl,by simp [em],?_⟩
  ·show TB S h0 n G nl nw i pk (if x.sweep=true∨(3:Int)=5 then 1 else 0) _
   rw [show (if x.sweep=true∨(3:Int)=5 then (1:Int) else 0)=if x.sweep=true then 1 else 0 by simp]
   exact⟨h.me,h.s,h.few,h.prog,h.job,h.past,h.pastn,h.lim,h.res,h.sw⟩
  ·show zo { x with pauses:=_,state:=3 }=sF
   unfold zo
   cases hx:x.now with
   | none=>simp [hx]
   | some a=>simp only [hx];exact(hn a hx).2
theorem LB {α:Type}{l:List α}{p:α→Bool}:(l.filter (fun r=>!p r)).length+(l.filter p).length=l.length:=by
 induction l with
 | nil=>rfl
 | cons a l ih=>cases h:p a <;> simp [h] <;> omega
theorem JT (hS:ig S n nl nw)(h:TB S h0 n G nl nw i pk 1 x)(hj:x.job<x.jobs.length)(hs:x.state=5)(hsw:x.sweep=false)(hn:∀a,x.now=some a→a.rd.length≤16∧Co a.inn=sF):Cj S h0 n G nl nw i pk x.past (rC x):=by
 have h0':=h.sw hsw
 have hl:=h.lim
 rw [h0'] at hl
 have hf:=LB (l:=x.limbo) (p:=fun r=>fe (fY x) r.stamp)
 unfold rC
 split
 ·rename_i g
  rw [h.s] at g
  refine⟨⟨?_,⟨by show 1≤x.state;omega,by show x.state≤6;omega⟩,fun _=>hj,fun g=>by have g:x.state=1:=g;omega,fun _=>hn,fun g=>by have g:x.state=3:=g;omega,fun _=>⟨g,hsw⟩⟩,rfl,by simp [em,hs],?_⟩
  ·show TB S h0 n G nl nw i pk (if x.sweep=true∨x.state=5 then 1 else 0) _
   rw [if_pos (.inr hs)]
   exact⟨h.me,h.s,h.few,h.prog,h.job,h.past,h.pastn,h.lim,h.res,h.sw⟩
  ·unfold zo
   cases hx:x.now with
   | none=>simp [hx]
   | some a=>simp only [hx];exact(hn a hx).2
 ·split
  ·exact tz (x:={ x with slots:=fY x,limbo:=x.limbo.filter fun r=>!fe (fY x) r.stamp }) hS ⟨h.me,h.s,h.few,h.prog,h.job,h.past,h.pastn,by show (x.limbo.filter _).length+x.rests.length≤_;rw [h0'];simp only [List.length_nil] at hl ⊢;omega,h.res,h.sw⟩ hj
  ·refine nE (x:={ x with slots:=fY x,limbo:=x.limbo.filter (fun r=>!fe (fY x) r.stamp),sweep:=true,rests:=x.limbo.filter (fun r=>fe (fY x) r.stamp),tries:=0,conf:=0 }) hS ?_
   exact⟨h.me,h.s,h.few,h.prog,h.job,h.past,h.pastn,by show (x.limbo.filter _).length+(x.limbo.filter _).length≤1000*x.res.length;simp only [List.length_nil] at hl;omega,h.res,fun g=>by cases g⟩
theorem jq.freed {a:bq}(ha:jq S h0 n G nl nw i a)(h8:a.state=8)(hr:a.run.isSome=true):a.freed.length≤1000:=by
 show (if a.done=true then _ else _:List Int).length≤1000
 split
 ·rename_i hdn
  cases hrun:a.run with
  | none=>rw [hrun] at hr;cases hr
  | some q =>
   have e:a.fin=2:=by
    have:(decide ((if a.state=8 then a.fin else 0)=2) || (!decide (a.state=8) && a.inn.wr))=true:=hdn
    rw [h8] at this;simpa using this
   exact(ha.ends (.inr e)).1
 ·simp
theorem NT (hS:ig S n nl nw){a:bq}{draw pick:Int}{sl:ByteArray}(hd:0≤draw)(h:TB S h0 n G nl nw i pk (if x.sweep=true then 1 else 0) x)(hj:x.job<x.jobs.length)(hn:x.now=some a)(ha:jq S h0 n G nl nw i a)(h8:a.state=8)(hx:Co a.inn=sF)(hr:x.sweep=false→a.run.isSome=true)(ht:QX S h0 n G nw n (gh a x.born pick)):Cj S h0 n G nl nw i (pk+1) (x.past++[gh a x.born pick]) (lO x a draw pick sl):=by
 have hres:=h.res
 have hlim:=h.lim
 have hpn:=h.pastn
 have hB:∀(d:Int) (z:co),z.me=x.me→z.s=x.s→z.jobs=x.jobs→z.job=x.job→z.past=x.past++[gh a x.born pick]→z.limbo.length+z.rests.length≤1000*z.res.length→(z.res.length:Int)≤z.job+d→(z.sweep=false→z.rests=[])→TB S h0 n G nl nw i (pk+1) d z:=by
  intro d z e1 e2 e3 e4 e5 e6 e7 e8
  refine⟨e1.trans h.me,e2.trans h.s,by rw [e3];exact h.few,by rw [e3];exact h.prog,by rw [e3,e4];exact h.job,fun b hb=>?_,?_,e6,e7,e8⟩
  ·rw [e5] at hb
   rcases List.mem_append.1 hb with hb | hb
   ·exact h.past b hb
   ·rw [List.mem_singleton.1 hb];exact ht
  ·rw [e5];simp only [List.length_append,List.length_singleton];omega
 have hn16:∀b,x.now=some b→b.rd.length≤16∧Co b.inn=sF:=fun b hb=>by
  rw [hn] at hb;cases hb;exact⟨ha.rd.1,hx⟩
 have hT:∀z:co,z.now=x.now→zo z=sF:=fun z e=>by unfold zo;rw [e,hn];exact hx
 unfold lO
 split
 ·split
  ·refine⟨⟨?_,⟨by simp,by simp⟩,fun _=>hj,fun g=>by simp at g,fun _=>hn16,fun g=>by simp at g,fun g=>by simp at g⟩,rfl,by simp [em],hT _ rfl⟩
   show TB S h0 n G nl nw i (pk+1) (if x.sweep=true∨(2:Int)=5 then 1 else 0) _
   rw [show (if x.sweep=true∨(2:Int)=5 then (1:Int) else 0)=if x.sweep=true then 1 else 0 by simp]
   exact hB _ _ rfl rfl rfl rfl rfl hlim hres h.sw
  ·exact HF (x:={ x with past:=x.past++[gh a x.born pick],tries:=IntKind.wrap .i64 (x.tries+1),conf:=IntKind.wrap .i64 (x.conf+1) }) hS hd (hB _ _ rfl rfl rfl rfl rfl hlim hres h.sw) hj hn16
 ·split
  ·split
   ·exact nE (x:={ x with past:=x.past++[gh a x.born pick],tries:=IntKind.wrap .i64 (x.tries+1) }) hS (hB _ _ rfl rfl rfl rfl rfl hlim hres h.sw)
   ·refine⟨⟨?_,⟨by simp,by simp⟩,fun _=>hj,fun g=>by simp at g,fun _=>hn16,fun g=>by simp at g,fun g=>by simp at g⟩,rfl,by simp [em],hT _ rfl⟩
    show TB S h0 n G nl nw i (pk+1) (if x.sweep=true∨(4:Int)=5 then 1 else 0) _
    rw [show (if x.sweep=true∨(4:Int)=5 then (1:Int) else 0)=if x.sweep=true then 1 else 0 by simp]
    exact hB _ _ rfl rfl rfl rfl rfl hlim hres h.sw
  ·split
   ·rename_i g
    rw [if_pos g] at hres
    show Cj _ _ _ _ _ _ _ _ _ (if a.fin=4 then _ else _)
    split
    ·
     have hz:∀z:co,z={ x with past:=x.past++[gh a x.born pick],tries:=IntKind.wrap .i64 (x.tries+1),limbo:=x.limbo++x.rests }→Cj S h0 n G nl nw i (pk+1) (x.past++[gh a x.born pick]) (iA z):=fun z e=>by
      have e2:iA z=iA { z with rests:=[] }:=rfl
      rw [e2,e]
      exact tz (x:={ x with past:=x.past++[gh a x.born pick],tries:=IntKind.wrap .i64 (x.tries+1),limbo:=x.limbo++x.rests,rests:=[] }) hS (hB 1 _ rfl rfl rfl rfl rfl (by simp only [List.length_append,List.length_nil];omega) hres (fun _=>rfl)) hj
     exact hz _ rfl
    ·exact tz (x:={ x with past:=x.past++[gh a x.born pick],tries:=IntKind.wrap .i64 (x.tries+1) }) hS (hB 1 _ rfl rfl rfl rfl rfl hlim hres h.sw) hj
   ·rename_i g
    have g:x.sweep=false:=by simpa using g
    rw [if_neg (by rw [g];decide)] at hres
    have hfr:=ha.freed h8 (hr g)
    have hz:TB S h0 n G nl nw i (pk+1) 1 { x with past:=x.past++[gh a x.born pick],tries:=IntKind.wrap .i64 (x.tries+1),res:=x.res++[⟨a.fin,a.err,sl,a.stamp⟩],limbo:=x.limbo++a.freed.map fun n=>⟨n,a.stamp⟩ } :=
     hB 1 _ rfl rfl rfl rfl rfl (by simp only [List.length_append,List.length_map,List.length_singleton];omega) (by show ((x.res++_).length:Int)≤x.job+1;simp only [List.length_append,List.length_singleton];omega) h.sw
    show Cj _ _ _ _ _ _ _ _ _ (if (x.limbo++a.freed.map fun n=>(⟨n,a.stamp⟩:pc))=[] then _ else _)
    split
    ·exact tz hS hz hj
    ·exact JT (x:={ x with past:=x.past++[gh a x.born pick],tries:=IntKind.wrap .i64 (x.tries+1),res:=x.res++[⟨a.fin,a.err,sl,a.stamp⟩],limbo:=x.limbo++a.freed.map fun n=>⟨n,a.stamp⟩,state:=5,slots:=[] }) hS ⟨hz.me,hz.s,hz.few,hz.prog,hz.job,hz.past,hz.pastn,hz.lim,hz.res,hz.sw⟩ hj rfl g hn16
end
structure Pm (T T' pk:Int)(L L':tW)(o:List Ta)(b:Ta):Prop where
 le:b.beg≤b.stamp∧(b.wrote=true→b.beg<b.stamp)∧b.stamp≤T'
 old:(o=[]∧L'=L∧b.wrote=false∧b.born=pk+1∧b.ended=0∧b.beg=T) ∨
  ∃a,o=[a]∧b.born=a.born∧b.beg=a.beg∧a.ended=0∧(b.ended=0∨b.ended=pk+1)∧((L'=L∧b.wrote=a.wrote∧(a.wrote=true→b.stamp=a.stamp∧b.cells=a.cells))∨(L'=vE b.stamp b.cells L∧a.wrote=false∧b.wrote=true∧∀y∈L,y.1≠b.stamp))
structure PF (S:eO)(h0:Hp)(n:Nat)(m:gn)(L:tW)(X:Nat→Hx)(i:Nat)(pk:Int)(t t':co)(m':gn)(L':tW):Prop where
 to:z8 (iq S) h0 n i (dz m L X) (dz m' L' (cq X i (zo t')))
 inv:pn S h0 n (dz m' L' (cq X i (zo t'))) m.l.length m.w.length i (pk+1) t'
 told:(em t'=em t∧L'=L)∨∃P o b,em t=P++o∧em t'=P++[b]∧Pm m.n m'.n pk L L' o b
section
variable {S:eO}{h0:Hp}{n me i nl nw:Nat}{G G':Gs}{m m':gn}{L L':tW}{X:Nat→Hx}{t:co}{pk:Int}{a a':bq}
theorem jq.ta (h:jq S h0 n G nl nw i a)(hb:a.begun=true){b e:Int}:(gh a b e).at_=a.at_∧QX S h0 n G nw i (gh a b e):=by
 have h2:2≤a.state:=by rw [h.begun] at hb;simpa using hb
 have e1:(gh a b e).at_=a.at_:=by
  unfold Ta.at_ bq.at_
  rw [h.wrote]
 obtain⟨c1,c2,c3⟩:=h.vok.cells
 have hv:=h.vsz
 refine⟨e1,⟨SG a.rd,by rw [e1];exact h.all h2⟩,by rw [e1];exact h.le h2,fun r hr=>?_,fun c hc=>?_,h.kok.few,?_⟩
 ·have:=h.kok.places r hr;rw [hv] at this;exact this
 ·have hc:c∈(if a.done=true then a.v.l.cells else []):=hc
  split at hc
  ·have h1:=c1.places c hc
   have h2:=c2 c hc
   rw [hv] at h2
   unfold yi at h1
   simp at h1
   exact⟨h1.1,h2⟩
  ·cases hc
 ·show (if a.done=true then a.v.l.cells else []).length≤96
  split
  ·exact c3
  ·simp
theorem jq.cells (h:jq S h0 n G nl nw i a)(hw:a.inn.wr=true){b e:Int}:(gh a b e).cells=a.v.l.cells:=by
 have:=h.wrote (b:=b) (e:=e)
 rw [hw] at this
 have h3:(a.done && !(if a.done=true then a.v.l.cells else []).isEmpty)=true:=this
 simp only [Bool.and_eq_true] at h3
 show (if a.done=true then a.v.l.cells else [])=_
 rw [if_pos h3.1]
theorem QX.past {b:Ta}(h:QX S h0 n G nw i b)(hd:(G.X i).hd=[]):QX S h0 n G nw n b:=by
 obtain⟨rd,h1⟩:=h.all
 exact⟨⟨rd,fun p hp=>(h1.good p hp).past hd (Nat.le_refl _),h1.in_⟩,h.at_,h.inr,h.inc,h.few⟩
theorem pn.few (h:pn S h0 n G nl nw i pk t):t.limbo.length+t.rests.length≤7000∧t.res.length≤7:=by
 have h1:=h.b.res
 have h2:=h.b.lim
 have h3:=h.b.job
 have h4:=h.b.few
 split at h1 <;> omega
theorem pn.jobs (h:pn S h0 n G nl nw i pk t):iQ t :=
 ⟨h.b.job.1,h.b.job.2,fun p hp=>(h.b.prog p hp).1,by have:=h.few;omega⟩
theorem ig.thr (h:ig S n nl nw):1≤S.threads∧S.threads≤4:=by
 have h1:=ft (n:=S.threads) (show (1:Int)≤4 by decide)
 have e1:held S.threads 1 4=S.threads:=congrArg eO.threads h.hs
 rw [e1] at h1;exact h1
theorem jq.gone (h:jq S h0 n G nl nw i a)(h8:a.state=8)(hU:∀n∈a.items,jM n):B0 a:=by
 have hk:=h.kok.few
 have hc:=h.vok.cells.2.2
 obtain⟨o1,_⟩:=h.out (by omega)
 have hd:a.done=true→a.fin=2:=fun g=>by
  have:(decide ((if a.state=8 then a.fin else 0)=2) || (!decide (a.state=8) && a.inn.wr))=true:=g
  rw [h8] at this;simpa using this
 exact⟨h8,by omega,by omega,by omega,fun g=>(h.ends (.inr (hd g))).1,h.blk.1,fun g=>⟨(h.ends (.inr (hd g))).2,hU⟩⟩
theorem pn.hear (hS:ig S n nl nw)(h:pn S h0 n G nl nw i pk t)(hp:pk≤1000000){an:fH}(hr:t.state=1→∃at_,t.now=some at_∧nI at_ an∧((bm at_ an).state=8→B0 (bm at_ an)∧(t.sweep=false→(bm at_ an).freed.length≤1000))):Ff t an:=by
 obtain⟨f1,f2⟩:=h.few
 have h1:=h.b.pastn
 have h2:=h.b.few
 have hm:=h.b.me
 have ht:=hS.thr
 have hs:t.s.threads≤4:=by rw [h.b.s];exact ht.2
 exact⟨h.jobs,by omega,by omega,by omega,by omega,fun g=>⟨by have:=(h.sl g).1;omega,by omega,hs⟩,fun g=>⟨h.job (by omega),hs,by omega,hr g⟩,fun g=>h.job (by omega)⟩
theorem Lj (hS:ig S n m.l.length m.w.length)(hn:i<n)(hi:fJ (iq S) h0 n (dz m L X))(hpk:0≤pk)(hX:X i=zo t)(h:pn S h0 n (dz m L X) m.l.length m.w.length i pk t)(hst:t.state=1)(hnow:t.now=some a)(hr:sC S h0 n m L X i a a' m' L'){draw:Int}(hd:0≤draw){sl:ByteArray}:PF S h0 n m L X i pk t (qh t a a' draw (pk+1) sl) m' L':=by
 obtain⟨a0,c0,hA,h8,hborn,hrun⟩:=h.run hst
 rw [hnow] at c0
 cases c0
 have hA':=hr.inv
 have hTT:=hr.to.T
 have hTT:m.n≤m'.n:=hTT
 have hb2:∀{x:bq} {g:Gs},jq S h0 n g m.l.length m.w.length i x→x.begun=true→2≤x.state:=fun h hb=>by rw [h.begun] at hb;simpa using hb
 have told0:em t=t.past++(if a.begun=true then [gh a t.born 0] else []):=by
  show t.past++(if t.state=1 then (match t.now with | some a=>if a.begun=true then [gh a t.born 0] else [] | none=>[]) else [])=_
  rw [if_pos hst,hnow]
 generalize hbn:(if a'.begun && !a.begun then pk+1 else t.born)=bn
 have hB:a'.begun=true→∀e,(e=0∨e=pk+1)→(a.begun=false→e=0)→Pm m.n m'.n pk L L' (if a.begun=true then [gh a t.born 0] else []) (gh a' bn e):=by
  intro hb' e he he0
  have hbg:=hA'.beg (hb2 hA' hb')
  have hw':(gh a' bn e).wrote=a'.inn.wr:=hA'.wrote
  refine⟨⟨hbg.2.1,fun g=>hbg.2.2.2 (by rw [←hw'];exact g),hbg.2.2.1⟩,?_⟩
  cases hb:a.begun with
  | false =>
   have h2:a.state≤1:=by
    have:=hA.begun;rw [hb] at this;have:=of_decide_eq_false this.symm;omega
   rcases hr.log with ⟨g1,g2,_⟩ | ⟨_,_,_,_,g⟩
   ·refine .inl ⟨rfl,g1,by rw [hw',g2,(hA.fresh (by omega)).1],?_,he0 hb,(hr.beg.2 hb hb').1⟩
    show bn=_
    rw [←hbn,hb,hb'];rfl
   ·rw [hb] at g;cases g
  | true =>
   refine .inr ⟨gh a t.born 0,rfl,?_,(hr.beg.1 hb).2,rfl,he,?_⟩
   ·show bn=t.born
    rw [←hbn,hb,hb'];rfl
   ·rw [hw',hA.wrote]
    rcases hr.log with ⟨g1,g2,g3⟩ | ⟨g1,g2,g3,g4,_⟩
    ·exact .inl ⟨g1,g2,fun g=>⟨(g3 g).1,by rw [hA'.cells (by rw [g2];exact g),hA.cells g,(g3 g).2]⟩⟩
    ·exact .inr ⟨by rw [hA'.cells g3];exact g1,g2,g3,g4⟩
 unfold qh
 rw [hbn]
 by_cases hg:a'.state=8∧a'.fin≠0
 ·rw [if_pos hg]
  have hb':a'.begun=true:=by rw [hA'.begun,hg.1];rfl
  have hbeg:a.begun=true:=by
   cases hb:a.begun with
   | true=>rfl
   | false =>
    have:=(hr.beg.2 hb hb').2
    omega
  obtain⟨o1,o2,o3,o4⟩:=hA'.out (by omega)
  have hx:Co a'.inn=sF:=by
   cases hc:a'.inn with
   | com c =>
    show gT c=sF
    unfold gT
    rw [if_neg (o4 c hc)]
   | _=>rfl
  have hxd:((dz m' L' (cq X i (Co a'.inn))).X i).hd=[]:=by
   show (cq X i _ i).hd=[]
   rw [fN,hx]
  have hta:=((hA'.ta hb' (b:=bn) (e:=pk+1)).2).past hxd
  have hTB:=(h.b.tr hr.to hn)
  have e2:(if t.sweep=true∨t.state=5 then (1:Int) else 0)=if t.sweep=true then 1 else 0:=by
   rw [hst];simp
  rw [e2] at hTB
  have hz:=NT (x:={ t with now:=some a',born:=bn }) (a:=a') (draw:=draw) (pick:=pk+1) (sl:=sl) hS hd
   ⟨hTB.me,hTB.s,hTB.few,hTB.prog,hTB.job,hTB.past,hTB.pastn,hTB.lim,hTB.res,hTB.sw⟩ (h.job (by omega)) rfl hA' hg.1 hx (fun g=>by rw [hr.isr];exact hrun g) hta
  have eX:cq X i (zo (lO { t with now:=some a',born:=bn } a' draw (pk+1) sl))=cq X i (Co a'.inn):=by rw [hz.hx,hx]
  refine⟨by rw [eX];exact hr.to,by rw [eX];exact hz.inv,.inr ⟨t.past,_,gh a' bn (pk+1),told0,hz.told,?_⟩⟩
  exact hB hb' (pk+1) (.inr rfl) (fun g=>by rw [hbeg] at g;cases g)
 ·rw [if_neg hg]
  have h8':a'.state≠8:=fun g=>hg ⟨g,by have:=(hA'.out (by omega)).1;omega⟩
  have eX:zo { t with now:=some a',born:=bn }=Co a'.inn:=rfl
  have e2:(if t.sweep=true∨t.state=5 then (1:Int) else 0)=(if ({ t with now:=some a',born:=bn }:co).sweep=true∨({ t with now:=some a',born:=bn }:co).state=5 then (1:Int) else 0):=rfl
  have hTB:=(h.b.tr hr.to hn).mono (show pk≤pk+1 by omega)
  refine⟨hr.to,⟨⟨hTB.me,hTB.s,hTB.few,hTB.prog,hTB.job,hTB.past,hTB.pastn,hTB.lim,hTB.res,hTB.sw⟩,h.st,h.job,fun _=>⟨a',rfl,hA',h8',fun g=>?_,fun g=>by rw [hr.isr];exact hrun g⟩,fun g=>absurd hst g,fun g=>by have g:t.state=3:=g;omega,fun g=>by have g:t.state=5:=g;omega⟩,?_⟩
  ·show 0<bn∧bn≤pk+1
   rw [←hbn]
   cases hb:a.begun with
   | true=>have:=hborn hb;simp;omega
   | false=>rw [g];simp;omega
  ·have told1:em { t with now:=some a',born:=bn }=t.past++(if a'.begun=true then [gh a' bn 0] else []):=by
    show t.past++(if t.state=1 then _ else _)=_
    rw [if_pos hst]
   cases hb':a'.begun with
   | true =>
    rw [hb'] at told1
    exact .inr ⟨t.past,_,gh a' bn 0,told0,told1,hB hb' 0 (.inl rfl) (fun _=>rfl)⟩
   | false =>
    have hb:a.begun=false:=by
     cases hb:a.begun with
     | false=>rfl
     | true=>have:=(hr.beg.1 hb).1;rw [hb'] at this;cases this
    refine .inl ⟨by rw [told0,told1,hb,hb'];rfl,?_⟩
    rcases hr.log with ⟨g1,_⟩ | ⟨_,_,_,_,g⟩
    ·exact g1
    ·rw [hb] at g;cases g
theorem Ps (hS:ig S n m.l.length m.w.length)(hn:i<n)(hsl:n≤m.s.length)(hT:m.n<4611686018427387904)(hi:fJ (iq S) h0 n (dz m L X))(hpk:0≤pk∧pk≤1000000)(hX:X i=zo t)(h:pn S h0 n (dz m L X) m.l.length m.w.length i pk t)(hgo:(bj t).2=true)(hU:t.state=1→∀a,t.now=some a→∀n∈(bm a (az m (cn a).1).2).items,jM n) :
  Ff t (az m (bj t).1).2∧∀(draw:Int) (sl:ByteArray),0≤draw→∃L',PF S h0 n m L X i pk t (thrTell t (az m (bj t).1).2 draw (pk+1) sl) (az m (bj t).1).1 L':=by
 have hlook:∀(k:Int),dz (az m ⟨8,k,0,0,ah,ah⟩).1 L X=dz m L X:=fun k=>by
  unfold az bx
  simp only [show ¬((8:Int)=1) by decide,show ¬((8:Int)=2) by decide,show ¬((8:Int)=3) by decide,show ¬((8:Int)=4) by decide,show ¬((8:Int)=5) by decide,show ¬((8:Int)=6) by decide,show ¬((8:Int)=7) by decide,if_false,if_true]
  split <;> split <;> rfl
 have hnew:∀(m':gn) (t':co),dz m' L X=dz m L X→t.state≠1→Cj S h0 n (dz m L X) m.l.length m.w.length i (pk+1) t.past t'→PF S h0 n m L X i pk t t' m' L:=fun m' t' hm h1 hz=>by
  have hx:zo t=sF:=by
   unfold zo
   cases hc:t.now with
   | none=>rfl
   | some a=>exact(h.rest h1 a hc).2
  have e:dz m' L (cq X i (zo t'))=dz m L X:=SB (by rw [hX,hx,hz.hx]) hm
  have ht:em t=t.past:=by unfold em;rw [if_neg h1];simp
  exact⟨by rw [e];exact .refl,by rw [e];exact hz.inv,.inl ⟨by rw [hz.told,ht],rfl⟩⟩
 by_cases c1:t.state=1
 ·obtain⟨a,ha,hA,h8,hb,hr⟩:=h.run c1
  have en:bj t=cn a:=by unfold bj;rw [if_pos c1,ha]
  have hXa:X i=Co a.inn:=by rw [hX];unfold zo;rw [ha]
  obtain⟨r1,L',r2⟩:=QJ hS hn hsl hT hi hXa hA h8
  rw [en]
  refine⟨h.hear hS hpk.2 fun _=>⟨a,ha,r1,fun g=>⟨r2.inv.gone g (hU c1 a ha),fun g2=>r2.inv.freed g (by rw [r2.isr];exact hr g2)⟩⟩,fun draw sl hd=>⟨L',?_⟩⟩
  have et:thrTell t (az m (cn a).1).2 draw (pk+1) sl=qh t a (bm a (az m (cn a).1).2) draw (pk+1) sl:=by
   unfold thrTell;rw [if_pos c1,ha]
  rw [et]
  exact Lj hS hn hi hpk.1 hX h c1 ha r2 hd
 ·have hr:∀a,t.now=some a→a.rd.length≤16∧Co a.inn=sF:=h.rest c1
  by_cases c2:t.state=2
  ·have en:(bj t).1=⟨8,t.by_,0,0,ah,ah⟩:=by unfold bj;rw [if_neg c1,if_pos c2]
   rw [en]
   refine⟨h.hear hS hpk.2 fun g=>absurd g c1,fun draw sl hd=>⟨L,hnew _ _ (hlook _) c1 ?_⟩⟩
   have hTB:=h.b.mono (show pk≤pk+1 by omega)
   rw [show (if t.sweep=true∨t.state=5 then (1:Int) else 0)=if t.sweep=true then 1 else 0 by rw [c2];simp] at hTB
   generalize (az m ⟨8,t.by_,0,0,ah,ah⟩).2=an
   have et:thrTell t an draw (pk+1) sl=th t an draw:=by unfold thrTell;rw [if_neg c1,if_pos c2]
   rw [et]
   show Cj _ _ _ _ _ _ _ _ _ (if an.err=0∧an.word≠0∧(t.yld=false∨an.word=t.since) then _ else _)
   split
   ·refine⟨⟨?_,h.st,h.job,fun g=>absurd g c1,fun _=>hr,fun g=>by have g:t.state=3:=g;omega,fun g=>by have g:t.state=5:=g;omega⟩,rfl,?_,?_⟩
    ·show TB S h0 n _ _ _ i (pk+1) (if t.sweep=true∨t.state=5 then 1 else 0) _
     rw [show (if t.sweep=true∨t.state=5 then (1:Int) else 0)=if t.sweep=true then 1 else 0 by rw [c2];simp]
     exact⟨hTB.me,hTB.s,hTB.few,hTB.prog,hTB.job,hTB.past,hTB.pastn,hTB.lim,hTB.res,hTB.sw⟩
    ·show t.past++(if t.state=1 then _ else _)=_
     rw [if_neg c1];simp
    ·unfold zo
     cases hx:t.now with
     | none=>simp [hx]
     | some a=>simp only [hx];exact(hr a hx).2
   ·exact HF hS hd hTB (h.job (by omega)) hr
  ·by_cases c5:t.state=5
   ·have en:(bj t).1=⟨8,t.slots.length,0,0,ah,ah⟩:=by unfold bj;rw [if_neg c1,if_neg c2,if_pos c5]
    rw [en]
    refine⟨h.hear hS hpk.2 fun g=>absurd g c1,fun draw sl hd=>⟨L,hnew _ _ (hlook _) c1 ?_⟩⟩
    have hTB:=h.b.mono (show pk≤pk+1 by omega)
    rw [if_pos (.inr c5)] at hTB
    generalize (az m ⟨8,t.slots.length,0,0,ah,ah⟩).2=an
    have et:thrTell t an draw (pk+1) sl=xO t (if an.err=0 then an.word else 0):=by unfold thrTell;rw [if_neg c1,if_neg c2,if_pos c5]
    rw [et]
    exact JT (x:={ t with slots:=t.slots++[if an.err=0 then an.word else 0] }) hS ⟨hTB.me,hTB.s,hTB.few,hTB.prog,hTB.job,hTB.past,hTB.pastn,hTB.lim,hTB.res,hTB.sw⟩ (h.job (by omega)) c5 (h.sl c5).2 hr
   ·exfalso
    have:(bj t).2=false:=by unfold bj;rw [if_neg c1,if_neg c2,if_neg c5]
    rw [this] at hgo;cases hgo
theorem NZ (hS:ig S n nl nw)(h:pn S h0 n G nl nw i pk t)(hgo:(bj t).2=false):pn S h0 n G nl nw i (pk+1) (io t)∧em (io t)=em t∧zo (io t)=zo t:=by
 unfold io
 by_cases c3:t.state=3
 ·rw [if_pos c3]
  have hr:∀a,t.now=some a→a.rd.length≤16∧Co a.inn=sF:=h.rest (by omega)
  have hx:zo t=sF:=by
   unfold zo
   cases hc:t.now with
   | none=>rfl
   | some a=>exact(hr a hc).2
  have ht:em t=t.past:=by unfold em;rw [if_neg (by omega)];simp
  have hTB:=h.b.mono (show pk≤pk+1 by omega)
  have hps:=h.ps c3
  have e2:(if t.sweep=true∨t.state=5 then (1:Int) else 0)=if t.sweep=true then 1 else 0:=by rw [c3];simp
  split
  ·rw [e2] at hTB
   have:=nE (x:={ t with pauses:=0 }) hS ⟨hTB.me,hTB.s,hTB.few,hTB.prog,hTB.job,hTB.past,hTB.pastn,hTB.lim,hTB.res,hTB.sw⟩
   exact⟨this.inv,by rw [this.told,ht],by rw [this.hx,hx]⟩
  ·exact⟨⟨⟨hTB.me,hTB.s,hTB.few,hTB.prog,hTB.job,hTB.past,hTB.pastn,hTB.lim,hTB.res,hTB.sw⟩,h.st,h.job,fun g=>by have g:t.state=1:=g;omega,fun _=>hr,fun _=>⟨by show 1≤t.pauses-1;omega,by show t.pauses-1≤100;omega⟩,fun g=>by have g:t.state=5:=g;omega⟩,rfl,rfl⟩
 ·rw [if_neg c3]
  exact⟨h.mono (by omega),rfl,rfl⟩
theorem Rq (hS:ig S n nl nw)(h:pn S h0 n G nl nw i pk t){s v:Int}:pn S h0 n G nl nw i pk (im t s v)∧em (im t s v)=em t∧zo (im t s v)=zo t:=by
 unfold im
 cases hc:t.now with
 | none=>exact⟨h,rfl,rfl⟩
 | some a =>
  simp only
  split
  ·split
   ·rename_i c4
    have hx:zo t=sF:=by unfold zo;rw [hc];exact(h.rest (by omega) a hc).2
    have ht:em t=t.past:=by unfold em;rw [if_neg (by omega)];simp
    have hTB:=h.b
    rw [show (if t.sweep=true∨t.state=5 then (1:Int) else 0)=if t.sweep=true then 1 else 0 by rw [c4];simp] at hTB
    have:=nE hS hTB
    exact⟨this.inv,by rw [this.told,ht],by rw [this.hx,hx]⟩
   ·split
    ·have hTB:=h.b
     exact⟨⟨⟨hTB.me,hTB.s,hTB.few,hTB.prog,hTB.job,hTB.past,hTB.pastn,hTB.lim,hTB.res,hTB.sw⟩,h.st,h.job,by rw [←hc];exact h.run,by rw [←hc];exact h.rest,h.ps,h.sl⟩,by unfold em;rw [hc],by unfold zo;rw [hc]⟩
    ·exact⟨h,rfl,rfl⟩
  ·exact⟨h,rfl,rfl⟩
end
def RR (a b:Ta):Prop:=a.born≠b.born∧(a.wrote=true→b.wrote=true→a.stamp≠b.stamp)
structure Dy (T pk:Int)(L:tW)(l:List Ta):Prop where
 mem:∀y,y∈L↔∃a∈l,a.wrote=true∧y=(a.stamp,a.cells)
 pw:l.Pairwise RR
 keep:∀a∈l,∀b∈l,0<a.ended→a.ended<b.born→a.stamp≤b.beg
 le:∀a∈l,a.stamp≤T∧0<a.born∧a.born≤pk∧0≤a.ended∧a.ended≤pk∧(0<a.ended→a.born≤a.ended)∧a.beg≤a.stamp∧(a.wrote=true→a.beg<a.stamp)
section
variable {T T' pk:Int}{L L':tW}{A B o:List Ta}{b:Ta}
theorem RR.symm {a b:Ta}(h:RR a b):RR b a:=⟨fun e=>h.1 e.symm,fun g1 g2 e=>h.2 g2 g1 e.symm⟩
theorem Hb {l:List Ta}(h:Dy T pk L l)(hT:T≤T'):Dy T' (pk+1) L l :=
 ⟨h.mem,h.pw,h.keep,fun a ha=>by have:=h.le a ha;exact⟨by omega,this.2.1,by omega,this.2.2.2.1,by omega,this.2.2.2.2.2⟩⟩
theorem O0 (h:Dy T pk L (A++o++B))(hp:0≤pk)(hT:T≤T')(hb:Pm T T' pk L L' o b):Dy T' (pk+1) L' (A++[b]++B):=by
 have hmem:∀x,x∈A++[b]++B↔x=b∨x∈A++B:=fun x=>by simp only [List.mem_append,List.mem_singleton];rw [or_assoc,or_left_comm]
 have hold:∀x,x∈A++B→x∈A++o++B:=fun x hx=>by
  simp only [List.mem_append] at hx ⊢
  rcases hx with hx | hx
  ·exact .inl (.inl hx)
  ·exact .inr hx
 have hsub:(A++B).Pairwise RR:=h.pw.sublist (by
  rw [List.append_assoc]
  exact List.Sublist.append_left (List.sublist_append_right o B) A)
 obtain⟨⟨l1,l2,l3⟩,hc⟩:=hb
 have hRb:∀x∈A++B,RR b x∧(b.born≤pk+1∧0<b.born):=by
  intro x hx
  have sF:=h.le x (hold x hx)
  rcases hc with ⟨ho,e1,e2,e3,e4,e5⟩ | ⟨a,ho,e1,e2,e3,e4,e5⟩
  ·exact⟨⟨by omega,fun g=>by rw [e2] at g;cases g⟩,by omega,by omega⟩
  ·subst ho
   have ha:=h.le a (by simp)
   have hR:RR a x:=by
    have hpw:=h.pw
    rw [List.append_assoc,List.pairwise_append] at hpw
    obtain⟨p1,p2,p3⟩:=hpw
    rcases List.mem_append.1 hx with g | g
    ·exact(p3 x g a (by simp)).symm
    ·exact(List.pairwise_cons.1 p2).1 x g
   refine⟨⟨by rw [e1];exact hR.1,fun g1 g2=>?_⟩,by omega,by omega⟩
   rcases e5 with ⟨f1,f2,f3⟩ | ⟨f1,f2,f3,f4⟩
   ·rw [f2] at g1
    rw [(f3 g1).1];exact hR.2 g1 g2
   ·have:=(h.mem (x.stamp,x.cells)).2 ⟨x,hold x hx,g2,rfl⟩
    exact fun e=>f4 _ this e.symm
 have hbb:0<b.born∧b.born≤pk+1∧0≤b.ended∧b.ended≤pk+1∧(0<b.ended→b.born≤b.ended):=by
  rcases hc with ⟨ho,e1,e2,e3,e4,e5⟩ | ⟨a,ho,e1,e2,e3,e4,e5⟩
  ·omega
  ·subst ho
   have ha:=h.le a (by simp)
   omega
 refine⟨fun y=>?_,?_,fun x hx z hz g1 g2=>?_,fun x hx=>?_⟩
 ·rcases hc with ⟨ho,e1,e2,e3,e4,e5⟩ | ⟨a,ho,e1,e2,e3,e4,e5⟩
  ·subst ho
   rw [e1,h.mem]
   constructor
   ·rintro⟨x,hx,g⟩
    exact⟨x,(hmem x).2 (.inr (by simpa using hx)),g⟩
   ·rintro⟨x,hx,g1,g2⟩
    rcases(hmem x).1 hx with rfl | hx
    ·rw [e2] at g1;cases g1
    ·exact⟨x,by simpa using hx,g1,g2⟩
  ·subst ho
   have hmo:∀x,x∈A++[a]++B↔x=a∨x∈A++B:=fun x=>by simp only [List.mem_append,List.mem_singleton];rw [or_assoc,or_left_comm]
   rcases e5 with ⟨f1,f2,f3⟩ | ⟨f1,f2,f3,f4⟩
   ·rw [f1,h.mem]
    constructor
    ·rintro⟨x,hx,g1,g2⟩
     rcases(hmo x).1 hx with rfl | hx
     ·exact⟨b,(hmem b).2 (.inl rfl),by rw [f2];exact g1,by rw [g2,(f3 g1).1,(f3 g1).2]⟩
     ·exact⟨x,(hmem x).2 (.inr hx),g1,g2⟩
    ·rintro⟨x,hx,g1,g2⟩
     rcases(hmem x).1 hx with rfl | hx
     ·rw [f2] at g1
      exact⟨a,(hmo a).2 (.inl rfl),g1,by rw [g2,(f3 g1).1,(f3 g1).2]⟩
     ·exact⟨x,(hmo x).2 (.inr hx),g1,g2⟩
   ·rw [f1,oG,h.mem]
    constructor
    ·rintro(g | ⟨x,hx,g1,g2⟩)
     ·exact⟨b,(hmem b).2 (.inl rfl),f3,g⟩
     ·rcases(hmo x).1 hx with rfl | hx
      ·rw [f2] at g1;cases g1
      ·exact⟨x,(hmem x).2 (.inr hx),g1,g2⟩
    ·rintro⟨x,hx,g1,g2⟩
     rcases(hmem x).1 hx with rfl | hx
     ·exact .inl g2
     ·exact .inr ⟨x,(hmo x).2 (.inr hx),g1,g2⟩
 ·rw [List.append_assoc,List.pairwise_append]
  have h1:=List.pairwise_append.1 hsub
  refine⟨h1.1,List.pairwise_cons.2 ⟨fun x hx=>(hRb x (List.mem_append_right _ hx)).1,h1.2.1⟩,fun x hx z hz=>?_⟩
  rcases List.mem_cons.1 hz with rfl | hz
  ·exact(hRb x (List.mem_append_left _ hx)).1.symm
  ·exact h1.2.2 x hx z hz
 ·
  have hq:∀z∈A++B,b.ended≤0∨¬b.ended<z.born:=fun z hz=>by
   have:=h.le z (hold z hz)
   rcases hc with ⟨ho,e1,e2,e3,e4,e5⟩ | ⟨a,ho,e1,e2,e3,e4,e5⟩ <;> omega
  rcases(hmem x).1 hx with rfl | hx'
  ·rcases(hmem z).1 hz with rfl | hz'
   ·exfalso;omega
   ·have:=hq z hz';exfalso;omega
  ·have sF:=h.le x (hold x hx')
   rcases(hmem z).1 hz with rfl | hz'
   ·rcases hc with ⟨ho,e1,e2,e3,e4,e5⟩ | ⟨a,ho,e1,e2,e3,e4,e5⟩
    ·omega
    ·subst ho
     have:=h.keep x (hold x hx') a (by simp) g1 (by omega)
     omega
   ·exact h.keep x (hold x hx') z (hold z hz') g1 g2
 ·rcases(hmem x).1 hx with rfl | hx
  ·exact⟨l3,hbb.1,hbb.2.1,hbb.2.2.1,hbb.2.2.2.1,hbb.2.2.2.2,l1,l2⟩
  ·have:=h.le x (hold x hx)
   exact⟨by omega,this.2.1,by omega,this.2.2.2.1,by omega,this.2.2.2.2.2⟩
end
def DD (l:List co)(i:Nat):Hx:=match l[i]? with
 | some t=>zo t
 | none=>sF
structure MI (S:eO)(h0:Hp)(n:Nat)(x:kI)(L:tW):Prop where
 set:ig S n x.mem.l.length x.mem.w.length
 len:x.thr.length=n
 sl:n≤x.mem.s.length
 T:x.mem.n<4611686018427387904
 pk:0≤x.picks
 g:fJ (iq S) h0 n (dz x.mem L (DD x.thr))
 thr:∀i t,x.thr[i]? = some t→pn S h0 n (dz x.mem L (DD x.thr)) x.mem.l.length x.mem.w.length i x.picks t
 told:Dy x.mem.n x.picks L (vP x)
section
variable {S:eO}{h0:Hp}{n i nl nw:Nat}{x:kI}{L:tW}{t:co}
theorem KZ {l:List co}{f:co→List Ta}{t':co}:∀{i:Nat},l[i]? = some t→∃A B,l.flatMap f=A++f t++B∧(l.set i t').flatMap f=A++f t'++B:=by
 induction l with
 | nil=>intro i h;cases h
 | cons a l ih =>
  intro i h
  cases i with
  | zero=>cases h;exact⟨[],l.flatMap f,by simp,by simp⟩
  | succ i =>
   obtain⟨A,B,e1,e2⟩:=ih (i:=i) (by simpa using h)
   exact⟨f a++A,B,by simp [e1],by simp [e2]⟩
theorem CF {l:List co}(h:l[i]? = some t):DD l i=zo t:=by unfold DD;rw [h]
theorem Lz {s v:Int}{k:Nat}{l:List co}{j:Nat}:(jg i s v k l)[j]? = (l[j]?).map fun u=>if j<k∧j≠i then im u s v else u:=by
 unfold jg
 rw [List.getElem?_mapIdx]
theorem Mp (h:MI S h0 n x L)(ht:x.thr[i]? = some t)(hp:x.picks≤1000000)(hgo:(bj t).2=true)(hU:t.state=1→∀a,t.now=some a→∀n∈(bm a (az x.mem (cn a).1).2).items,jM n):Ff t (az x.mem (bj t).1).2∧∀(draw:Int)(sl:ByteArray),0≤draw→∃L',MI S h0 n (lW x i t draw sl) L':=by
 have hi:=(List.getElem?_eq_some_iff.1 ht).1
 have hin:i<n:=by rw [←h.len];exact hi
 obtain⟨r1,r2⟩:=Ps h.set hin h.sl h.T h.g ⟨h.pk,hp⟩ (CF ht) (h.thr i t ht) hgo hU
 refine⟨r1,fun draw sl hd=>?_⟩
 obtain⟨L',hr⟩:=r2 draw sl hd
 refine⟨L',?_⟩
 obtain⟨k1,k2,k3,k4⟩:=Mq (o:=(bj t).1) h.T
 unfold lW
 generalize (az x.mem (bj t).1).1=m' at hr k1 k2 k3 k4
 generalize thrTell t (az x.mem (bj t).1).2 draw (x.picks+1) sl=t' at hr
 generalize hthr:(if (bj t).1.kind=5 then jg i (bj t).1.place (bj t).1.lock.version x.thr.length (x.thr.set i t') else x.thr.set i t')=thr'
 have hat:∀j u',thr'[j]? = some u'→(j=i∧u'=t')∨(j≠i∧∃u,x.thr[j]? = some u∧(u'=u∨∃s v,u'=im u s v)):=by
  intro j u' hj
  rw [←hthr] at hj
  have hset:∀u,(x.thr.set i t')[j]? = some u→(j=i∧u=t')∨(j≠i∧x.thr[j]? = some u):=fun u hu=>by
   by_cases c:j=i
   ·subst c;rw [List.getElem?_set_self hi] at hu;cases hu;exact .inl ⟨rfl,rfl⟩
   ·rw [List.getElem?_set_ne (fun e=>c e.symm)] at hu;exact .inr ⟨c,hu⟩
  split at hj
  ·rw [Lz,Option.map_eq_some_iff] at hj
   obtain⟨u,hu,rfl⟩:=hj
   rcases hset u hu with ⟨c,e⟩ | ⟨c,e⟩
   ·exact .inl ⟨c,by rw [if_neg (fun g=>g.2 c)];exact e⟩
   ·refine .inr ⟨c,u,e,?_⟩
    split
    ·exact .inr ⟨_,_,rfl⟩
    ·exact .inl rfl
  ·rcases hset u' hj with ⟨c,e⟩ | ⟨c,e⟩
   ·exact .inl ⟨c,e⟩
   ·exact .inr ⟨c,u',e,.inl rfl⟩
 have hlen:thr'.length=x.thr.length:=by
  rw [←hthr];split
  ·unfold jg;simp
  ·simp
 have hself:thr'[i]? = some t':=by
  have h1:i<thr'.length:=by omega
  rcases hat i _ (List.getElem?_eq_getElem h1) with ⟨_,e⟩ | ⟨c,_⟩
  ·rw [List.getElem?_eq_getElem h1,e]
  ·exact absurd rfl c
 have hw:∀j u,x.thr[j]? = some u→∀u',(u'=u∨∃s v,u'=im u s v)→pn S h0 n (dz x.mem L (DD x.thr)) x.mem.l.length x.mem.w.length j x.picks u'∧em u'=em u∧zo u'=zo u:=fun j u hu u' g=>by
  have hI:=h.thr j u hu
  rcases g with rfl | ⟨s,v,rfl⟩
  ·exact⟨hI,rfl,rfl⟩
  ·exact Rq h.set hI
 have hX:DD thr'=cq (DD x.thr) i (zo t'):=by
  funext j
  unfold cq
  by_cases c:j=i
  ·subst c;rw [if_pos rfl,CF hself]
  ·rw [if_neg c]
   cases hj:thr'[j]? with
   | none =>
    have:x.thr[j]? = none:=by rw [List.getElem?_eq_none_iff] at hj ⊢;omega
    unfold DD;rw [hj,this]
   | some u' =>
    rcases hat j u' hj with ⟨g,_⟩ | ⟨_,u,hu,g⟩
    ·exact absurd g c
    ·rw [CF hj,CF hu];exact(hw j u hu u' g).2.2
 have hG:=hr.to.inv h.g
 have htold:thr'.flatMap em=(x.thr.set i t').flatMap em:=by
  have:thr'.map em=(x.thr.set i t').map em:=by
   apply List.ext_getElem?
   intro j
   rw [List.getElem?_map,List.getElem?_map]
   by_cases c:j=i
   ·subst c;rw [hself,List.getElem?_set_self hi]
   ·rw [List.getElem?_set_ne (fun e=>c e.symm)]
    cases hj:thr'[j]? with
    | none =>
     have:x.thr[j]? = none:=by rw [List.getElem?_eq_none_iff] at hj ⊢;omega
     rw [this]
    | some u' =>
     rcases hat j u' hj with ⟨g,_⟩ | ⟨_,u,hu,g⟩
     ·exact absurd g c
     ·rw [hu]
      simp only [Option.map_some]
      rw [(hw j u hu u' g).2.1]
  rw [List.flatMap_def,List.flatMap_def,this]
 have hTT:x.mem.n≤m'.n:=hr.to.T
 refine⟨by show ig S n m'.l.length m'.w.length;rw [k2,k3];exact h.set,by show thr'.length=n;rw [hlen];exact h.len,by show n≤m'.s.length;rw [k4];exact h.sl,k1,by show 0≤x.picks+1;have:=h.pk;omega,by show fJ _ _ _ (dz m' L' (DD thr'));rw [hX];exact hG,fun j u' hj=>?_,?_⟩
 ·show pn S h0 n (dz m' L' (DD thr')) m'.l.length m'.w.length j (x.picks+1) u'
  rw [hX,k2,k3]
  rcases hat j u' hj with ⟨rfl,rfl⟩ | ⟨c,u,hu,g⟩
  ·exact hr.inv
  ·exact((hw j u hu u' g).1.tr hr.to hin c).mono (by omega)
 ·show Dy m'.n (x.picks+1) L' (thr'.flatMap em)
  rw [htold]
  obtain⟨A,B,e1,e2⟩:=KZ (f:=em) (t':=t') ht
  rw [e2]
  have h1:=h.told
  have h1:Dy x.mem.n x.picks L (x.thr.flatMap em):=h1
  rw [e1] at h1
  rcases hr.told with ⟨g1,g2⟩ | ⟨P,o,b,g1,g2,g3⟩
  ·rw [g1,g2];exact Hb h1 hTT
  ·rw [g1] at h1
   rw [g2]
   have e3:A++(P++o)++B=(A++P)++o++B:=by simp
   have e4:A++(P++[b])++B=(A++P)++[b]++B:=by simp
   rw [e3] at h1
   rw [e4]
   exact O0 h1 h.pk hTT g3
theorem Ri (h:MI S h0 n x L)(ht:x.thr[i]? = some t)(hgo:(bj t).2=false):MI S h0 n (ru x i t) L:=by
 have hi:=(List.getElem?_eq_some_iff.1 ht).1
 obtain⟨r1,r2,r3⟩:=NZ h.set (h.thr i t ht) hgo
 have hX:DD (x.thr.set i (io t))=DD x.thr:=by
  funext j
  by_cases c:j=i
  ·subst c;rw [CF (List.getElem?_set_self hi),r3,CF ht]
  ·unfold DD;rw [List.getElem?_set_ne (fun e=>c e.symm)]
 refine⟨h.set,by show (x.thr.set i _).length=n;simp [h.len],h.sl,h.T,by show 0≤x.picks+1;have:=h.pk;omega,by show fJ _ _ _ (dz x.mem L (DD (x.thr.set i _)));rw [hX];exact h.g,fun j u hj=>?_,?_⟩
 ·show pn S h0 n (dz x.mem L (DD (x.thr.set i (io t)))) _ _ j (x.picks+1) u
  rw [hX]
  have hj:(x.thr.set i (io t))[j]? = some u:=hj
  by_cases c:j=i
  ·subst c;rw [List.getElem?_set_self hi] at hj;cases hj;exact r1
  ·rw [List.getElem?_set_ne (fun e=>c e.symm)] at hj
   exact(h.thr j u hj).mono (by omega)
 ·obtain⟨A,B,e1,e2⟩:=KZ (f:=em) (t':=io t) ht
  show Dy x.mem.n (x.picks+1) L ((x.thr.set i (io t)).flatMap em)
  rw [e2,r2,←e1]
  exact Hb h.told (Int.le_refl _)
theorem RU (h:MI S h0 n x L)(ht:x.thr[i]? = some t)(hp:x.picks≤1000000)(hU:t.state=1→∀a,t.now=some a→∀n∈(bm a (az x.mem (cn a).1).2).items,jM n):PK x i t:=by
 have hT:=h.thr i t ht
 have hn4:=h.set.n4
 have hth:=h.set.thr
 refine⟨ht,by rw [h.len];exact hn4,⟨h.pk,by omega⟩,fun g=>?_,fun g=>by have:=(hT.sl g).1;omega,hT.jobs,fun _ g=>hT.ps g,fun g=>(Mp h ht hp g hU).1,fun k u hk _=>⟨(h.thr k u hk).jobs,fun a ha=>?_⟩⟩
 ·obtain⟨a,ha,hA,h8,_⟩:=hT.run g
  refine⟨a,ha,fun c0 c1 c2 c7 c8=>?_⟩
  have:=hA.st
  by_cases c3:a.state=3
  ·obtain⟨_,f,e,_⟩:=hA.fet c3;rw [e];exact trivial
  ·by_cases c6:a.state=6
   ·obtain⟨c,e,_⟩:=hA.com c6;rw [e];exact(hA.isc c e).1.ok
   ·obtain⟨_,q,e,hE⟩:=hA.ext (by omega)
    rw [e]
    exact⟨hE.ok,by rw [hE.seen];have:=hA.rd.1;omega⟩
 ·have hu:=h.thr k u hk
  by_cases c:u.state=1
  ·obtain⟨b,hb,hB,_⟩:=hu.run c
   rw [ha] at hb;cases hb
   have:=hB.rd.1;omega
  ·have:=(hu.rest c a ha).1;omega
theorem MI.ordered (h:MI S h0 n x L):(AG (vP x)∧∀s,vS s→(∀a,a∈s↔a∈vP x)→Dx h0 s∧Cy s)∧∀a∈vP x,(∀r∈a.reads,1≤r.place∧r.place<x.mem.w.length)∧(∀c∈a.cells,1≤c.place∧c.place<x.mem.w.length)∧a.reads.length≤256∧a.cells.length≤96:=by
 have hta:∀a∈vP x,∃j,QX S h0 n (dz x.mem L (DD x.thr)) x.mem.w.length j a:=fun a ha=>by
  obtain⟨t,ht,hat⟩:=List.mem_flatMap.1 ha
  obtain⟨i,hi,e⟩:=List.getElem_of_mem ht
  have hT:=h.thr i t (by rw [List.getElem?_eq_getElem hi,e])
  rcases List.mem_append.1 hat with g | g
  ·exact⟨n,hT.b.past a g⟩
  ·split at g
   ·rename_i c1
    obtain⟨q,hq,hA,_⟩:=hT.run c1
    rw [hq] at g
    simp only at g
    split at g
    ·rename_i hb
     rw [List.mem_singleton.1 g]
     exact⟨i,(hA.ta hb).2⟩
    ·cases g
   ·cases g
 have ht:=h.told
 refine⟨N4 ⟨h.g.log,ht.mem,fun a ha b hb wa wb e=>?_,ht.pw.imp fun h=>h.1,fun a ha r hr=>?_,fun a ha b hb g1 g2=>?_⟩,fun a ha=>?_⟩
 ·have hall:∀{l:List Ta},l.Pairwise RR→∀a∈l,∀b∈l,a=b∨RR a b:=by
   intro l hl
   induction hl with
   | nil=>intro a ha;cases ha
   | cons h1 _ ih =>
    intro a ha b hb
    rcases List.mem_cons.1 ha with e1 | ha'
    ·rcases List.mem_cons.1 hb with e2 | hb'
     ·exact .inl (e1.trans e2.symm)
     ·rw [e1];exact .inr (h1 b hb')
    ·rcases List.mem_cons.1 hb with e2 | hb'
     ·rw [e2];exact .inr (h1 a ha').symm
     ·exact ih a ha' b hb'
  rcases hall ht.pw a ha b hb with g | g
  ·exact g
  ·exact absurd e (g.2 wa wb)
 ·obtain⟨j,hj⟩:=hta a ha
  obtain⟨rd,h1⟩:=hj.all
  exact h1.reads r hr
 ·have k:=ht.keep a ha b hb g1 g2
  have la:=ht.le a ha
  have lb:=ht.le b hb
  by_cases e:a.stamp<b.stamp
  ·exact .inl e
  ·refine .inr ⟨by omega,?_,.inr (by omega)⟩
   cases hw:b.wrote with
   | false=>rfl
   | true=>have:=lb.2.2.2.2.2.2.2 hw;omega
 ·obtain⟨j,hj⟩:=hta a ha
  exact⟨hj.inr,hj.inc,hj.few⟩
theorem MS {S:eO}{r:List (List bu)}:∀{l:List (List (List bu))}{k i:Nat},(jh S k l)[i]? = (l[i]?).map fun r=>mr (k+i:Nat) S r
 | [],_,_=>rfl
 | a::l,k,0=>rfl
 | a::l,k,i+1=>by
  show (jh S (k+1) l)[i]? = _
  rw [MS (r:=r)]
  simp only [List.getElem?_cons_succ]
  rw [show k+1+i=k+(i+1) by omega]
theorem HP {S:eO}:∀{l:List (List (List bu))}{k:Nat},(jh S k l).length=l.length
 | [],_=>rfl
 | a::l,k=>by show (jh S (k+1) l).length+1=_;rw [HP];rfl
theorem RL (hS:ig S n nl nw){G:Gs}{r:List (List bu)}(h6:r.length≤6)(hp:∀p∈r,p.length≤1000∧∀k∈p,k.op≠23):Cj S h0 n G nl nw i 0 [] (mr i S r):=by
 refine nE (x:=⟨i,dj S,r,0,0,false,[],0,0,none,0,false,[],[],[],[],0,0,false,0⟩) hS ?_
 exact⟨rfl,hS.hs,h6,hp,⟨Int.le_refl _,by simp⟩,by simp,by simp,by simp,by simp,fun _=>rfl⟩
theorem MZ {s:eO}{rows:List (List (List bu))}(hn:rows.length≤4)(hs0:0≤s.start)(hr:∀r∈rows,r.length≤6∧∀p∈r,p.length≤1000∧∀k∈p,k.op≠23) :
  MI (dp s rows.length) (fun c=>(eH s rows).mem.w.getD c.toNat 0) rows.length (eH s rows) []:=by
 have hSS:dj (dp s rows.length)=dp s rows.length:=Bf _
 have hst:0≤(dp s rows.length).start∧(dp s rows.length).start<4611686018427387904:=by
  show 0≤(if 4611686018427387904≤s.start then (4611686018427387903:Int) else s.start)∧(if 4611686018427387904≤s.start then (4611686018427387903:Int) else s.start)<_
  split <;> omega
 have e1:held (dp s rows.length).words 32 256=(dp s rows.length).words:=congrArg eO.words hSS
 have e2:held (dp s rows.length).stripes 1 16=(dp s rows.length).stripes:=congrArg eO.stripes hSS
 have e3:held (dp s rows.length).threads 1 4=(dp s rows.length).threads:=congrArg eO.threads hSS
 have e4:(if 4611686018427387904≤(dp s rows.length).start then (4611686018427387903:Int) else (dp s rows.length).start)=(dp s rows.length).start:=by rw [if_neg (by omega)]
 have hw:=ft (n:=(dp s rows.length).words) (show (32:Int)≤256 by decide)
 have hst1:=ft (n:=(dp s rows.length).stripes) (show (1:Int)≤16 by decide)
 have ht0:(dp s rows.length).threads=held rows.length 1 4:=rfl
 have hth:(rows.length:Int)≤held (dp s rows.length).threads 1 4:=by
  rw [e3,ht0];unfold held;split <;> (try split) <;> omega
 have hmem:∃c,(eH s rows).mem={ t6 (dp s rows.length).shape with w:=(t6 (dp s rows.length).shape).w.set 5 14,count:=c }:=by
  have hin:js 5 (t6 (dp s rows.length).shape).w=true:=by
   unfold js t6
   simp only [List.length_replicate]
   simp;omega
  refine⟨IntKind.wrap .i64 (0+1),?_⟩
  show (az (t6 (dp s rows.length).shape) ⟨2,5,0,14,ah,ah⟩).1=_
  unfold az bx
  simp only [hin]
  rfl
 obtain⟨c,hmem⟩:=hmem
 have hlk:∀k,(eH s rows).mem.l.getD k ah=ah:=fun k=>by
  rw [hmem]
  show (List.replicate _ ah).getD k ah=ah
  rw [List.getD_eq_getElem?_getD,List.getElem?_replicate]
  split <;> rfl
 have hl:(eH s rows).mem.l.length=(held (dp s rows.length).stripes 1 16).toNat:=by rw [hmem];exact List.length_replicate
 have hwl:(eH s rows).mem.w.length=(held (dp s rows.length).words 32 256).toNat:=by
  rw [hmem]
  show ((List.replicate _ (0:Int)).set 5 14).length=_
  rw [List.length_set];exact List.length_replicate
 have hsl:(eH s rows).mem.s.length=(held (dp s rows.length).threads 1 4).toNat:=by rw [hmem];exact List.length_replicate
 have hmn:(eH s rows).mem.n=(dp s rows.length).start:=by rw [hmem];exact e4
 have hset:ig (dp s rows.length) rows.length (eH s rows).mem.l.length (eH s rows).mem.w.length :=
  ⟨hSS,by rw [hl];rw [e2] at hst1 ⊢;omega,by rw [hwl];rw [e1] at hw ⊢;omega,hn⟩
 have hthr:∀i t,(eH s rows).thr[i]? = some t→∀G,Cj (dp s rows.length) (fun c=>(eH s rows).mem.w.getD c.toNat 0) rows.length G (eH s rows).mem.l.length (eH s rows).mem.w.length i 0 [] t:=fun i t ht G=>by
  have ht:(jh (dp s rows.length) 0 rows)[i]? = some t:=ht
  rw [MS (r:=[]),Option.map_eq_some_iff] at ht
  obtain⟨r,hr1,rfl⟩:=ht
  obtain⟨a1,a2⟩:=hr r (List.mem_of_getElem? hr1)
  rw [Nat.zero_add]
  exact RL hset a1 a2
 have hX:∀i,DD (eH s rows).thr i=sF:=fun i=>by
  unfold DD
  cases h:(eH s rows).thr[i]? with
  | none=>rfl
  | some t=>exact(hthr i t h ⟨fun _=>ah,fun _=>0,0,[],fun _=>sF⟩).hx
 refine⟨hset,HP,by rw [hsl];omega,by rw [hmn];exact hst.2,Int.le_refl _,?_,fun i t ht=>(hthr i t ht _).inv,⟨fun y=>?_,?_,fun a ha=>?_,fun a ha=>?_⟩⟩
 ·refine⟨by show 0≤(eH s rows).mem.n;rw [hmn];exact hst.1,fun k=>?_,fun i _ k V g=>?_,fun k g=>?_,fun k _=>?_,fun i _=>?_,fun i _ a g=>?_,fun i j a _ _ g=>?_,fun i _ g=>?_,fun i _ _ a g=>?_,List.Pairwise.nil,by simp [dz],by simp [dz],fun c _ t _=>rfl,fun i _ g=>?_,fun i _ g=>?_,fun i _ g=>?_,fun i _ g=>?_⟩
  ·show 0≤((eH s rows).mem.l.getD k ah).version∧((eH s rows).mem.l.getD k ah).version≤(eH s rows).mem.n
   rw [hlk,hmn];exact⟨Int.le_refl _,hst.1⟩
  ·have g:(k,V)∈(DD (eH s rows).thr i).hd:=g
   rw [hX] at g;cases g
  ·have g:((eH s rows).mem.l.getD k ah).held=true:=g
   rw [hlk] at g;cases g
  ·show ((eH s rows).mem.l.getD k ah).owner=0
   rw [hlk];rfl
  ·show ((DD (eH s rows).thr i).hd.map (·.1)).Nodup
   rw [hX];simp
  ·have g:(DD (eH s rows).thr i).up=some a:=g
   rw [hX] at g;cases g
  ·have g:(DD (eH s rows).thr i).up=some a:=g
   rw [hX] at g;cases g
  ·have g:(DD (eH s rows).thr i).wr=true:=g
   rw [hX] at g;cases g
  ·have g:(DD (eH s rows).thr i).up=some a:=g
   rw [hX] at g;cases g
  all_goals
   have g:(DD (eH s rows).thr i).wr=true:=g
   rw [hX] at g;cases g
 all_goals
  have hnone:vP (eH s rows)=[]:=by
   show (eH s rows).thr.flatMap em=[]
   rw [List.flatMap_eq_nil_iff]
   intro t ht
   obtain⟨i,hi,e⟩:=List.getElem_of_mem ht
   exact(hthr i t (by rw [List.getElem?_eq_getElem hi,e]) ⟨fun _=>ah,fun _=>0,0,[],fun _=>sF⟩).told
 ·rw [hnone];simp
 ·rw [hnone];exact List.Pairwise.nil
 ·rw [hnone] at ha;cases ha
 ·rw [hnone] at ha;cases ha
end
end Go.Proofs.YtoealglbimbbmaaGreatDoor.S
