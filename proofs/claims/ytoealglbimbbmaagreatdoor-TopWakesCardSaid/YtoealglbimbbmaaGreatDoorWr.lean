import Derived.Test.YtoealglbimbbmaaGreatDoorGMac
import Derived.Test.YtoealglbimbbmaaGreatDoorGPr
import Derived.Test.YtoealglbimbbmaaGreatDoorWk
namespace Go.Proofs.YtoealglbimbbmaaGreatDoor.S.Tw
open Go Go.Proofs
set_option linter.unusedVariables false
set_option linter.unusedSimpArgs false
structure Wo where
 s:TSet
 jobs:Nat→List Job
abbrev Wo.str (W:Wo)(c:Int):Nat:=(stripeOf c W.s.stripes W.s.wide).toNat
abbrev Wo.P (W:Wo):Pr:=⟨W.s.spins,W.str,W.jobs⟩
def JobOk:Job→Prop
 | .takes a b=>(a=8∨a=9)∧(b=10∨b=11)
 | .puts c=>c=8∨c=9∨c=10∨c=11
structure WoOk (W:Wo):Prop where
 hset:heldSet W.s=W.s
 thr:W.s.threads=3
 words:32≤W.s.words∧W.s.words≤256
 str:1≤W.s.stripes∧W.s.stripes≤16
 wide:1≤W.s.wide∧W.s.wide≤16
 sp:0≤W.s.spins∧W.s.spins≤4
 wr:1≤W.s.writes∧W.s.writes≤96
 fuel:20≤W.s.fuel∧W.s.fuel≤400
 start:0≤W.s.start∧W.s.start≤1000000
 few:∀i,(W.jobs i).length≤6
 job:∀i,∀j∈W.jobs i,JobOk j
def progJ:Job→List TIns
 | .takes a b=>takesP a b
 | .puts c=>putsP c
theorem WoOk.prOk {W:Wo}(h:WoOk W):PrOk W.P:=⟨h.sp⟩
theorem WoOk.jobAt {W:Wo}(h:WoOk W)(i k:Nat):JobOk (W.P.job i k):=by
 unfold Pr.job
 rw [List.getD_eq_getElem?_getD]
 cases e:(W.P.jobs i)[k]? with
 | none=>exact .inl rfl
 | some j=>exact h.job i j (List.mem_of_getElem? e)
theorem place_in {j:Job}(h:JobOk j)(sec:Bool):8≤place j sec∧place j sec≤11:=by
 cases j with
 | takes a b=>obtain⟨h1,h2⟩:=h;cases sec <;> simp [place] <;> omega
 | puts c=>have h:c=8∨c=9∨c=10∨c=11:=h;simp [place];omega
theorem WoOk.pl {W:Wo}(h:WoOk W)(me:Nat)(a:AT):8≤W.P.pl me a∧W.P.pl me a≤11:=place_in (h.jobAt me a.job) a.sec
theorem WoOk.strIn {W:Wo}(h:WoOk W){c:Int}(hc:8≤c∧c≤11):stripeOf c W.s.stripes W.s.wide=(W.str c:Int)∧(W.str c:Int)<W.s.stripes:=by
 have h1:=h.str
 have h2:=h.wide
 have e1:held W.s.wide 1 16=W.s.wide:=by unfold held;rw [if_neg (by omega),if_neg (by omega)]
 have e2:held W.s.stripes 1 16=W.s.stripes:=by unfold held;rw [if_neg (by omega),if_neg (by omega)]
 have g0:0≤c.tdiv W.s.wide:=Int.tdiv_nonneg (by omega) (by omega)
 have g1:c.tdiv W.s.wide≤c:=Int.tdiv_le_self _ (by omega)
 have e3:IntKind.wrap .i64 (c.tdiv W.s.wide)=c.tdiv W.s.wide:=wi64 (by omega) (by omega)
 have e:stripeOf c W.s.stripes W.s.wide=(c.tdiv W.s.wide).tmod W.s.stripes:=by unfold stripeOf;rw [if_neg (by omega),e1,e2,e3]
 have g2:=Int.tmod_nonneg W.s.stripes g0
 have g3:=Int.tmod_lt_of_pos (c.tdiv W.s.wide) (show 0<W.s.stripes by omega)
 unfold Wo.str
 rw [e]
 omega
theorem WoOk.sIn {W:Wo}(h:WoOk W)(me:Nat)(a:AT):stripeOf (W.P.pl me a) W.s.stripes W.s.wide=((W.P.s me a:Nat):Int)∧((W.P.s me a:Nat):Int)<W.s.stripes:=h.strIn (h.pl me a)
def seenOf (l:List (Nat×Int)):List TSeen:=l.map fun p=>⟨p.1,p.2⟩
theorem seenOf_len {l:List (Nat×Int)}:(seenOf l).length=l.length:=by unfold seenOf;simp
theorem seenOf_at {a:AT}{i:Nat}(h:i<a.rd.length):(seenOf a.rd).getD i ⟨0,0⟩=⟨((rdAt a i).1:Int),(rdAt a i).2⟩:=by
 unfold seenOf rdAt
 rw [List.getD_eq_getElem?_getD,List.getD_eq_getElem?_getD,List.getElem?_map,List.getElem?_eq_getElem h];rfl
def runF (W:Wo)(j:Job)(sec:Bool):IntG:=match j with
 | .takes a b=>if sec then tkS a b 0 0 [] 8 9 (W.s.fuel-6) [p18] else tkS a b 0 0 [] 1 2 (W.s.fuel-1) [p17]
 | .puts c=>puS c 0 0 0 W.s.fuel
def vwF (W:Wo)(j:Job)(sec:Bool):VwS:=match j with
 | .takes a b=>if sec then tkO W.s.words.toNat W.s.writes [⟨a,0⟩] b else tkO W.s.words.toNat W.s.writes [] a
 | .puts _=>tkV W.s.words.toNat W.s.writes [] 0
abbrev at0 (W:Wo)(me:Nat)(j:Job):AttS:=⟨me,W.s,intGNew (progJ j) W.s.fuel,tkV W.s.words.toNat W.s.writes [] 0,[],0,.none,false,0,0,0,-1,0,false⟩
theorem attNew_of {W:Wo}(hW:WoOk W){s:TSet}{i:Int}{me:Nat}(j:Job)(hs:s=W.s)(hi:i=me):attNew i s (progJ j)=at0 W me j:=by
 subst hs hi
 unfold attNew
 rw [hW.hset]
abbrev fAt (W:Wo)(me:Nat)(a:AT)(b:Int)(state:Int)(i:Inn):AttS:=⟨me,W.s,runF W (W.P.job me a.job) a.sec,vwF W (W.P.job me a.job) a.sec,seenOf a.rd,state,i,true,b,a.st,0,-1,0,false⟩
structure Got (W:Wo)(me:Nat)(x:AttS):Prop where
 who:x.me=me
 set:x.s=W.s
 known:x.v.k.length≤1000
 cells:x.v.l.cells.length≤1000
 frees:x.v.l.frees=[]
structure BlkR (W:Wo)(me:Nat)(x:AttS)(a:AT)(e:ExtS):Prop where
 g:Got W me x
 rd:x.rd=seenOf a.rd
 st:x.state=5
 inn:x.inn=.ext e
 bl:x.blocking=true
structure CmR (W:Wo)(me:Nat)(x:AttS)(m:ComS):Prop where
 g:Got W me x
 rd:x.rd.length≤1000
 items:TextOk x.run.items
 st:x.state=6
 inn:x.inn=.com m
structure GoR (W:Wo)(me:Nat)(x:AttS)(a:AT)(e b:Int):Prop where
 g:Got W me x
 rd:x.rd.length≤1000
 st:x.state=7
 fin:x.fin=e
 by_:x.by_=b
 items:e=2→TextOk x.run.items
 bl:e=3→x.blocking=true∧x.rd=seenOf a.rd
abbrev cm (W:Wo)(me:Nat)(a:AT)(q st:Int)(was:List TLock)(state:Int)(pos:Nat)(lk:TLock)(now:Int)(wr:Bool)(fin by_ err:Int):ComS :=
 ⟨⟨me,q,0,-1,0⟩,me,st,seenOf a.rd,[⟨W.P.pl me a,(W.P.job me a.job).word⟩],[(W.P.s me a:Int)],was,state,pos,lk,now,wr,fin,by_,err⟩
def RA (W:Wo)(me:Nat)(x:AttS)(a:AT):Prop:=match a.ph with
 | .coming=>x=at0 W me (W.P.job me a.job)
 | .asking=>x={ at0 W me (W.P.job me a.job) with state:=1 }
 | .marking=>x={ at0 W me (W.P.job me a.job) with begun:=true,beg:=a.st,stamp:=a.st,state:=2 }
 | .f0=>∃b lk w,x=fAt W me a b 3 (.fetch ⟨⟨me,a.q,0,-1,0⟩,W.P.pl me a,W.P.s me a,a.st,0,lk,w⟩)
 | .f1 v=>∃b w,x=fAt W me a b 3 (.fetch ⟨⟨me,a.q,0,-1,0⟩,W.P.pl me a,W.P.s me a,a.st,1,⟨v,false,0⟩,w⟩)
 | .f2 v w=>∃b,x=fAt W me a b 3 (.fetch ⟨⟨me,a.q,0,-1,0⟩,W.P.pl me a,W.P.s me a,a.st,2,⟨v,false,0⟩,w⟩)
 | .x0 blk=>if blk=true then BlkR W me x a ⟨⟨me,a.q,0,-1,0⟩,seenOf a.rd,false,0,0⟩ else ∃b,x=fAt W me a b 4 (.ext ⟨⟨me,a.q,0,-1,0⟩,seenOf a.rd,false,0,0⟩)
 | .x1 blk T i=>if blk=true then BlkR W me x a ⟨⟨me,a.q,0,-1,0⟩,seenOf a.rd,true,i,T⟩ else ∃b,x=fAt W me a b 4 (.ext ⟨⟨me,a.q,0,-1,0⟩,seenOf a.rd,true,i,T⟩)
 | .c0=>∃lk now,CmR W me x (cm W me a a.q a.st [] 0 0 lk now false 0 0 0)
 | .c1 V=>∃now,CmR W me x (cm W me a a.q a.st [] 1 0 ⟨V,false,0⟩ now false 0 0 0)
 | .c2 V=>∃lk now,CmR W me x (cm W me a a.q a.st [⟨V,false,0⟩] 2 0 lk now false 0 0 0)
 | .c3 V now=>∃lk,CmR W me x (cm W me a a.q a.st [⟨V,false,0⟩] 3 0 lk now false 0 0 0)
 | .c4 V now i=>∃lk,CmR W me x (cm W me a a.q a.st [⟨V,false,0⟩] 4 i lk now false 0 0 0)
 | .c5 V now=>∃lk,CmR W me x (cm W me a a.q a.st [⟨V,false,0⟩] 5 0 lk now true 0 0 0)
 | .c6 V now=>∃lk,CmR W me x (cm W me a a.q a.st [⟨V,false,0⟩] 6 0 lk now true 0 0 0)
 | .c7 V b=>∃q lk now,CmR W me x (cm W me a q a.st [⟨V,false,0⟩] 7 0 lk now false 5 b 0)
 | .go e b=>GoR W me x a e b
 | _=>False
def alm:Ph→Bool
 | .coming=>true | .asking=>true | .marking=>true | .f0=>true | .f1 _=>true | .f2 _ _=>true | .x0 _=>true | .x1 _ _ _=>true
 | .go e _=>decide (e=3)
 | _=>false
def RPh (W:Wo)(me:Nat)(x:ThrS)(a:AT):Prop:=match a.ph with
 | .yld b since y=>x.state=2∧x.by_=b∧x.yld=y∧(y=true→x.since=since)
 | .pause p=>x.state=3∧x.pauses=p
 | .wait=>x.state=4∧∃t,x.now=some t∧t.rd=seenOf a.rd
 | .fin=>x.state=6
 | _=>x.state=1∧∃t,x.now=some t∧RA W me t a
structure RT (W:Wo)(i:Nat)(x:ThrS)(a:AT):Prop where
 me:x.me=i
 s:x.s=W.s
 jobs:x.jobs=(W.jobs i).map progJ
 job:x.job=a.job
 res:x.res.length=a.job
 rd:∀t,x.now=some t→t.rd.length≤1000
 rds:∀p∈a.rd,(p.1:Int)<W.s.stripes
 al:alm a.ph=true→x.alarm=a.al
 ph:RPh W i x a
structure RM (W:Wo)(M:MemS)(m:AM):Prop where
 wl:(M.w.length:Int)=W.s.words
 w:∀c,8≤c→M.w.getD c.toNat 0=m.w c
 ll:(M.l.length:Int)=W.s.stripes
 l:∀s:Nat,(s:Int)<W.s.stripes→M.l.getD s zeroLock=m.lk s
 t:M.n=m.T
 sl:M.s.length=3
 s:∀i,i<3→M.s.getD i 0=m.e i
theorem RM.ext {W:Wo}{M M':MemS}{m:AM}(h:RM W M m)(h1:M'.w=M.w)(h2:M'.l=M.l)(h3:M'.n=M.n)(h4:M'.s=M.s):RM W M' m :=
 ⟨by rw [h1];exact h.wl,by rw [h1];exact h.w,by rw [h2];exact h.ll,by rw [h2];exact h.l,by rw [h3];exact h.t,by rw [h4];exact h.sl,by rw [h4];exact h.s⟩
theorem memDo_rm {W:Wo}{M:MemS}{m:AM}{o:TOp}(h:RM W (memStep M o).1 m):RM W (memDo M o).1 m:=by
 unfold memDo;split
 ·exact h.ext rfl rfl rfl rfl
 ·exact h
theorem memDo_an {M:MemS}{o:TOp}:(memDo M o).2=(memStep M o).2:=by unfold memDo;split <;> rfl
section
variable {W:Wo}{M:MemS}{m:AM}{s:Nat}
theorem RM.inS (h:RM W M m)(hs:(s:Int)<W.s.stripes):inLen (s:Int) M.l.length=true∧s<M.l.length:=by
 have:=h.ll
 exact⟨inLen_nat (by omega),by omega⟩
theorem mem_load {c:Int}(hW:WoOk W)(h:RM W M m)(hc:8≤c∧c≤11):memStep M ⟨1,c,0,0,zeroLock,zeroLock⟩=(M,⟨m.w c,zeroLock,false,0⟩):=by
 have h1:=hW.words
 have e:inHeap c M.w=true:=by unfold inHeap;have:=h.wl;simp;omega
 have h2:=h.w c (by omega)
 unfold memStep
 simp only [if_true,e,h2]
theorem mem_lock (h:RM W M m)(hs:(s:Int)<W.s.stripes):memStep M ⟨3,s,0,0,zeroLock,zeroLock⟩=(M,⟨0,m.lk s,false,0⟩):=by
 have e:=(h.inS hs).1
 have h2:=h.l s hs
 unfold memStep loadRes
 simp only [e,if_true,Int.toNat_natCast,h2]
 rfl
theorem mem_clock (h:RM W M m):memStep M ⟨6,0,0,0,zeroLock,zeroLock⟩=(M,⟨m.T,zeroLock,false,0⟩):=by
 unfold memStep
 simp only [h.t]
 rfl
theorem mem_epoch {i:Nat}(hi:i<3)(h:RM W M m):memStep M ⟨8,i,0,0,zeroLock,zeroLock⟩=(M,⟨m.e i,zeroLock,false,0⟩):=by
 have e:inLen (i:Int) M.s.length=true:=inLen_nat (by rw [h.sl];exact hi)
 have:=h.s i hi
 unfold memStep
 simp only [e,if_true,Int.toNat_natCast,this]
 rfl
theorem mem_mark {i:Nat}{x:Int}(hi:i<3)(h:RM W M m):(memStep M ⟨9,i,0,x,zeroLock,zeroLock⟩).2=zeroAns∧RM W (memStep M ⟨9,i,0,x,zeroLock,zeroLock⟩).1 { m with e:=upd m.e i x }:=by
 have e:inLen (i:Int) M.s.length=true:=inLen_nat (by rw [h.sl];exact hi)
 have es:memStep M ⟨9,i,0,x,zeroLock,zeroLock⟩=({ M with s:=M.s.set i x },zeroAns):=by
  unfold memStep
  simp only [e,if_true,Int.toNat_natCast]
  rfl
 rw [es]
 refine⟨rfl,⟨h.wl,h.w,h.ll,h.l,h.t,by simp [h.sl],fun j hj=>?_⟩⟩
 have hl:=h.sl
 have hs:=h.s j hj
 simp only [List.getD_eq_getElem?_getD] at hs ⊢
 by_cases c:i=j
 ·subst c
  rw [List.getElem?_set_self (by omega),upd_me]
  rfl
 ·rw [List.getElem?_set_ne c,hs,upd_ot (fun g=>c g.symm)]
theorem mem_store {c x:Int}(hW:WoOk W)(h:RM W M m)(hc:8≤c∧c≤11):(memStep M ⟨2,c,0,x,zeroLock,zeroLock⟩).2=zeroAns∧RM W (memStep M ⟨2,c,0,x,zeroLock,zeroLock⟩).1 { m with w:=updI m.w c x }:=by
 have h1:=hW.words
 have hwl:=h.wl
 have e:inHeap c M.w=true:=by unfold inHeap;simp;omega
 have es:memStep M ⟨2,c,0,x,zeroLock,zeroLock⟩=({ M with w:=M.w.set c.toNat x },zeroAns):=by
  unfold memStep
  simp only [e,if_true]
  rfl
 rw [es]
 refine⟨rfl,⟨by simpa using hwl,fun d hd=>?_,h.ll,h.l,h.t,h.sl,h.s⟩⟩
 have hw:=h.w d hd
 simp only [List.getD_eq_getElem?_getD] at hw ⊢
 show ((M.w.set c.toNat x)[d.toNat]?).getD 0=if d=c then x else m.w d
 by_cases g:d=c
 ·subst g
  rw [List.getElem?_set_self (by omega),if_pos rfl];rfl
 ·rw [List.getElem?_set_ne (by omega),if_neg g,hw]
theorem mem_setLock {l:TLock}(h:RM W M m)(hs:(s:Int)<W.s.stripes)(hl:isLock l=true):(memStep M ⟨5,s,0,0,zeroLock,l⟩).2=zeroAns∧RM W (memStep M ⟨5,s,0,0,zeroLock,l⟩).1 { m with lk:=upd m.lk s l }:=by
 have e:=h.inS hs
 have em:mayErr M.l s l=0:=by unfold mayErr;rw [e.1,hl];rfl
 have es:memStep M ⟨5,s,0,0,zeroLock,l⟩=({ M with l:=M.l.set s l },zeroAns):=by
  unfold memStep storeRes
  simp only [em,if_true,Int.toNat_natCast]
  rfl
 rw [es]
 refine⟨rfl,⟨h.wl,h.w,by simpa using h.ll,fun d hd=>?_,h.t,h.sl,h.s⟩⟩
 have hw:=h.l d hd
 simp only [List.getD_eq_getElem?_getD] at hw ⊢
 by_cases g:d=s
 ·subst g
  rw [List.getElem?_set_self (by omega),upd_me];rfl
 ·rw [List.getElem?_set_ne (by omega),upd_ot g,hw]
theorem mem_cas {u l:TLock}(h:RM W M m)(hs:(s:Int)<W.s.stripes)(hl:isLock l=true):(memStep M ⟨4,s,0,0,u,l⟩).2=⟨0,zeroLock,decide (m.lk s=u),0⟩∧RM W (memStep M ⟨4,s,0,0,u,l⟩).1 (if m.lk s=u then { m with lk:=upd m.lk s l } else m):=by
 have e:=h.inS hs
 have em:mayErr M.l s l=0:=by unfold mayErr;rw [e.1,hl];rfl
 have h2:=h.l s hs
 by_cases c:m.lk s=u
 ·have es:memStep M ⟨4,s,0,0,u,l⟩=({ M with l:=M.l.set s l },⟨0,zeroLock,true,0⟩):=by
   unfold memStep casRes
   simp only [em,if_true,Int.toNat_natCast,h2,c]
   rfl
  rw [es,if_pos c]
  have:=(mem_setLock h hs hl).2
  have es2:memStep M ⟨5,s,0,0,zeroLock,l⟩=({ M with l:=M.l.set s l },zeroAns):=by
   unfold memStep storeRes
   simp only [em,if_true,Int.toNat_natCast]
   rfl
  rw [es2] at this
  exact⟨by simp [c],this⟩
 ·have es:memStep M ⟨4,s,0,0,u,l⟩=({ M with l:=M.l },⟨0,zeroLock,false,0⟩):=by
   unfold memStep casRes
   simp only [em,if_true,Int.toNat_natCast,h2,if_neg c]
   rfl
  rw [es,if_neg c]
  exact⟨by simp [c],h⟩
theorem mem_raise {now:Int}(h:RM W M m)(h0:0≤now)(h2:now<4611686018427387903):(memStep M ⟨7,0,now,now+1,zeroLock,zeroLock⟩).2=⟨0,zeroLock,decide (m.T=now),0⟩∧RM W (memStep M ⟨7,0,now,now+1,zeroLock,zeroLock⟩).1 (if m.T=now then { m with T:=now+1 } else m):=by
 have a1:¬now+1≤now:=by omega
 have a2:¬(4611686018427387904:Int)≤now+1:=by omega
 have a3:M.n=m.T:=h.t
 by_cases c:m.T=now
 ·have es:memStep M ⟨7,0,now,now+1,zeroLock,zeroLock⟩=({ M with n:=now+1 },⟨0,zeroLock,true,0⟩):=by
   unfold memStep
   simp only [a1,a2,a3,c,if_true,if_false]
   rfl
  rw [es,if_pos c]
  exact⟨by simp [c],⟨h.wl,h.w,h.ll,h.l,rfl,h.sl,h.s⟩⟩
 ·have es:memStep M ⟨7,0,now,now+1,zeroLock,zeroLock⟩=(M,zeroAns):=by
   unfold memStep
   simp only [a1,a2,a3,c,if_true,if_false]
   rfl
  rw [es,if_neg c]
  exact⟨by simp [c,zeroAns],h⟩
end
structure AttR' (W:Wo)(me:Nat)(t:AttS)(ans:TAns)(a':AT):Prop where
 ok:t.state≠0→t.state≠1→t.state≠2→t.state≠7→t.state≠8→t.inn.ok
 tell:TellOk t ans
 st:(attTell t ans).state≠8
 ra:RA W me (attTell t ans) a'
 rd:(attTell t ans).rd.length≤1000
theorem newPat_of {W:Wo}(hW:WoOk W){me:Nat}:newPat me W.s.spins=⟨me,W.s.spins,0,-1,0⟩:=by
 have sp:=hW.sp
 have e2:held W.s.spins 0 4=W.s.spins:=by unfold held;rw [if_neg (by omega),if_neg (by omega)]
 unfold newPat;rw [e2]
theorem marked_all:∀s:Nat,s<16→((List.range 16).filter fun j:Nat=>decide ((j:Int)=(s:Int))).map (fun j:Nat=>(j:Int))=[(s:Int)]:=by decide
theorem marked_of {W:Wo}(hW:WoOk W){c w:Int}(hc:8≤c∧c≤11):marked (hasStripe [⟨c,w⟩] W.s.stripes W.s.wide) 16=[(W.str c:Int)]:=by
 have h:=hW.strIn hc
 have hs:=hW.str
 have e:hasStripe [⟨c,w⟩] W.s.stripes W.s.wide=fun j:Nat=>decide ((j:Int)=(W.str c:Int)):=by
  funext j
  unfold hasStripe stripesOf
  simp only [List.map_cons,List.map_nil,List.filter_cons,List.filter_nil]
  rw [if_pos (by rw [h.1];exact decide_eq_true (by omega)),h.1]
  simp
 unfold marked
 rw [e]
 exact marked_all _ (by omega)
theorem TextOk_nil:TextOk []:=.inl rfl
theorem TextOk_one {n:Int}(h:0≤n∧n<10):TextOk [n]:=.inr ⟨rfl,fun m hm=>by rw [List.mem_singleton.1 hm];exact h⟩
section
variable {W:Wo}{me:Nat}{m:AM}{a a':AT}{t:AttS}{v w V now b:Int}{lk:TLock}
theorem att_coming (e:a.ph=.coming)(h:RA W me t a):attNext t=(⟨9,me,0,1,zeroLock,zeroLock⟩,true)∧AttR' W me t zeroAns { a with ph:=.asking }:=by
 unfold RA at h
 rw [e] at h
 have h:t=at0 W me (W.P.job me a.job):=h
 subst h
 exact⟨rfl,fun g=>absurd rfl g,⟨rfl,fun g=>by simp at g,fun g=>absurd rfl g⟩,by simp [attTell],rfl,Nat.zero_le _⟩
theorem att_asking {T:Int}(e:a.ph=.asking)(h:RA W me t a):attNext t=(⟨6,0,0,0,zeroLock,zeroLock⟩,true)∧AttR' W me t ⟨T,zeroLock,false,0⟩ { a with ph:=.marking,st:=T }:=by
 unfold RA at h
 rw [e] at h
 have h:t={ at0 W me (W.P.job me a.job) with state:=1 }:=h
 subst h
 exact⟨rfl,fun _ g=>absurd rfl g,⟨rfl,fun g=>by simp at g,fun _ g=>absurd rfl g⟩,by simp [attTell],rfl,Nat.zero_le _⟩
theorem com_new (hW:WoOk W){bl:Bool}{rn:IntG}{vw:VwS}{bg sm:Int}{rd:List (Nat×Int)}(hq:a.q=W.s.spins)(hst:a.st=sm)(hrd:a.rd=rd)(hr:a.rd.length≤1000)(hc:vw.l.cells=[⟨W.P.pl me a,(W.P.job me a.job).word⟩])(hk:vw.k.length≤1000)(hf:vw.l.frees=[])(hi:TextOk rn.items) :
  CmR W me ⟨me,W.s,rn,vw,seenOf rd,6,.com (comNew me W.s.spins sm (seenOf rd) vw.l.cells (marked (hasStripe vw.l.cells W.s.stripes W.s.wide) 16)),true,bg,sm,0,-1,0,bl⟩ (cm W me a a.q a.st [] 0 0 zeroLock 0 false 0 0 0):=by
 refine⟨⟨rfl,rfl,hk,by rw [hc];simp,hf⟩,by rw [←hrd];show (seenOf a.rd).length≤1000;rw [seenOf_len];exact hr,hi,rfl,?_⟩
 subst hrd hst
 rw [hc,marked_of hW (hW.pl me a)]
 unfold comNew
 rw [newPat_of hW,←hq]
 rfl
theorem att_marking (hW:WoOk W)(e:a.ph=.marking)(h0:0≤a.st)(h1:a.st≤1000000000000)(hr:a.rd=[])(hs:a.sec=false)(h:RA W me t a) :
  attNext t=(⟨9,me,0,a.st+1,zeroLock,zeroLock⟩,true)∧AttR' W me t zeroAns { a with ph:=if (W.P.job me a.job).tk then .f0 else .c0,q:=W.s.spins }:=by
 unfold RA at h
 rw [e] at h
 have h:t={ at0 W me (W.P.job me a.job) with begun:=true,beg:=a.st,stamp:=a.st,state:=2 }:=h
 subst h
 have e1:IntKind.wrap .u64 (a.st+1)=a.st+1:=wu64 (by omega) (by omega)
 have hj:=hW.jobAt me a.job
 have f1:=hW.fuel
 have f2:=hW.words
 have f3:=hW.wr
 refine⟨by unfold attNext;simp only [e1];rfl,?_⟩
 cases hjb:W.P.job me a.job with
 | takes ja jb =>
  rw [hjb] at hj
  obtain⟨hj1,hj2⟩:=hj
  have hrun:Runs 500 (intGNew (progJ (.takes ja jb)) W.s.fuel) (tkV W.s.words.toNat W.s.writes [] 0) (tkS ja jb 0 0 [] 1 2 (W.s.fuel-1) [p17],tkO W.s.words.toNat W.s.writes [] ja,1):=by
   rw [show progJ (.takes ja jb)=takesP ja jb from rfl,takes_new hj1 hj2 (by omega)]
   exact run_tk0 (n:=498) (by omega) (by omega) (by omega) (by omega)
  have hpl:W.P.pl me a=ja:=by unfold Pr.pl;rw [hjb,hs];rfl
  have hs1:=(hW.sIn me a).1
  rw [hpl] at hs1
  have ea:attTell { at0 W me (.takes ja jb) with begun:=true,beg:=a.st,stamp:=a.st,state:=2 } zeroAns=fAt W me { a with ph:=.f0,q:=W.s.spins } a.st 3 (.fetch ⟨⟨me,W.s.spins,0,-1,0⟩,ja,W.P.s me a,a.st,0,zeroLock,0⟩):=by
   unfold attTell
   rw [if_neg (by simp),if_neg (by simp),if_neg (by simp),if_pos rfl]
   unfold attWork
   simp only
   rw [hrun.2]
   unfold attDid attAsk fetchNew fAt
   simp only [newPat_of hW,hs1,hjb,hs,hr]
   rfl
  refine⟨fun _ _ g=>absurd rfl g,⟨rfl,fun _=>⟨hrun.1,rfl,Nat.zero_le _,by simp only;rw [hrun.2];exact Nat.zero_le _⟩,fun _ _ g=>absurd rfl g⟩,by rw [ea];show (3:Int)≠8;decide,?_,?_⟩
  ·rw [ea]
   refine⟨a.st,zeroLock,0,?_⟩
   show _=fAt W me _ a.st 3 (.fetch ⟨⟨me,W.s.spins,0,-1,0⟩,W.P.pl me a,W.P.s me a,a.st,0,zeroLock,0⟩)
   rw [hpl]
  ·rw [ea];show (seenOf a.rd).length≤1000;rw [hr];exact Nat.zero_le _
 | puts c =>
  rw [hjb] at hj
  have hj:c=8∨c=9∨c=10∨c=11:=hj
  have hrun:Runs 500 (intGNew (progJ (.puts c)) W.s.fuel) (tkV W.s.words.toNat W.s.writes [] 0) ({ puS c 1 2 2 (W.s.fuel-2) with fin:=2 },tkW W.s.words.toNat W.s.writes [] 0 ⟨c,1⟩,2):=by
   rw [show progJ (.puts c)=putsP c from rfl,puts_new hj (by omega)]
   exact run_pu (n:=497) (by omega) (by omega) (by omega) (by omega) (by omega)
  have hpl:W.P.pl me a=c:=by unfold Pr.pl;rw [hjb];rfl
  have hcm:=com_new (W:=W) (me:=me) (a:={ a with ph:=.c0,q:=W.s.spins }) (bl:=false) (rn:={ puS c 1 2 2 (W.s.fuel-2) with fin:=2 }) (vw:=tkW W.s.words.toNat W.s.writes [] 0 ⟨c,1⟩) (bg:=a.st) (sm:=a.st) (rd:=[]) hW rfl rfl hr (by show a.rd.length≤1000;rw [hr];exact Nat.zero_le _) (by
   show [(⟨c,1⟩:TCell)]=[⟨W.P.pl me a,(W.P.job me a.job).word⟩]
   rw [hpl,hjb];rfl) (by simp) rfl TextOk_nil
  have ea:attTell { at0 W me (.puts c) with begun:=true,beg:=a.st,stamp:=a.st,state:=2 } zeroAns=⟨me,W.s,{ puS c 1 2 2 (W.s.fuel-2) with fin:=2 },tkW W.s.words.toNat W.s.writes [] 0 ⟨c,1⟩,seenOf [],6,.com (comNew me W.s.spins a.st (seenOf []) (tkW W.s.words.toNat W.s.writes [] 0 ⟨c,1⟩).l.cells (marked (hasStripe (tkW W.s.words.toNat W.s.writes [] 0 ⟨c,1⟩).l.cells W.s.stripes W.s.wide) 16)),true,a.st,a.st,0,-1,0,false⟩:=by
   unfold attTell
   rw [if_neg (by simp),if_neg (by simp),if_neg (by simp),if_pos rfl]
   unfold attWork
   simp only
   rw [hrun.2]
   rfl
  refine⟨fun _ _ g=>absurd rfl g,⟨rfl,fun _=>⟨hrun.1,rfl,Nat.zero_le _,by simp only;rw [hrun.2];show 1≤1000;decide⟩,fun _ _ g=>absurd rfl g⟩,by rw [ea];show (6:Int)≠8;decide,?_,?_⟩
  ·rw [ea]
   exact⟨zeroLock,0,hcm⟩
  ·rw [ea];exact Nat.zero_le _
structure Heard (W:Wo)(me:Nat)(x:AttS)(a:AT):Prop where
 st:(attTold x).state≠8
 ra:RA W me (attTold x) a
 rd:(attTold x).rd.length≤1000
 ok:ToldOk x
theorem Heard.att {ans:TAns}(h:Heard W me { t with inn:=t.inn.tell ans } a')(hs:t.state=3∨t.state=4∨t.state=5∨t.state=6)(he:ans.err=0)(ho:t.inn.ok):AttR' W me t ans a':=by
 have e:attTell t ans=attTold { t with inn:=t.inn.tell ans }:=by
  unfold attTell
  rw [if_neg (by omega),if_neg (by omega),if_neg (by omega),if_neg (by omega),if_neg (by omega)]
 exact⟨fun _ _ _ _ _=>ho,⟨he,fun g=>by omega,fun _ _ _ _ _=>⟨ho,h.ok⟩⟩,by rw [e];exact h.st,by rw [e];exact h.ra,by rw [e];exact h.rd⟩
theorem told_f {f:FetchS}{bg:Int}(h:f.pat.fin=0∨f.pat.fin=5∨f.pat.fin=6)(hr:a.rd.length≤1000):ToldOk (fAt W me a bg 3 (.fetch f)) :=
 ⟨trivial,fun g e=>(by
  cases e
  refine⟨rfl,?_⟩
  rcases h with h | h | h
  ·exact .inl h
  ·exact .inr (.inl h)
  ·refine .inr (.inr ⟨.inl h,by show (seenOf a.rd).length≤1000;rw [seenOf_len];exact hr,?_,fun e=>by omega⟩)
   show (vwF W (W.P.job me a.job) a.sec).k.length≤1000
   unfold vwF
   split
   ·split <;> simp
   ·simp),fun g e=>(by cases e),fun g e=>(by cases e)⟩
theorem told0 {f:FetchS}{bg:Int}(h:f.pat.fin=0):attTold (fAt W me a bg 3 (.fetch f))=fAt W me a bg 3 (.fetch f):=by
 unfold attTold attMark
 have e:(fAt W me a bg 3 (.fetch f)).inn.fin=0:=h
 rw [if_pos e,if_neg (by simp [AttS.wr])]
theorem told5 {f:FetchS}{bg:Int}(h:f.pat.fin=5):attTold (fAt W me a bg 3 (.fetch f))=attOut (fAt W me a bg 3 (.fetch f)) 5 0 f.pat.by_:=by
 have e:(fAt W me a bg 3 (.fetch f)).inn.fin=5:=h
 have e0:¬(fAt W me a bg 3 (.fetch f)).inn.fin=0:=by rw [e];decide
 unfold attTold
 rw [if_neg e0,if_pos e]
 unfold attMark
 rw [if_neg (by simp [AttS.wr])]
theorem vwF_k {j:Job}{sec:Bool}:(vwF W j sec).k.length≤1000∧(vwF W j sec).l.cells.length≤1000∧(vwF W j sec).l.frees=[]:=by
 unfold vwF
 split
 ·split
  ·exact⟨by simp,Nat.zero_le _,rfl⟩
  ·exact⟨by simp,Nat.zero_le _,rfl⟩
 ·exact⟨by simp,Nat.zero_le _,rfl⟩
theorem go5_of {f:Inn}{bg s:Int}{o:Int}(hr:a.rd.length≤1000){c:AT}(hc:c.ph=.go 5 o):RA W me (attOut (fAt W me a bg s f) 5 0 o) c:=by
 unfold RA
 rw [hc]
 exact⟨⟨rfl,rfl,vwF_k.1,vwF_k.2.1,vwF_k.2.2⟩,by show (seenOf a.rd).length≤1000;rw [seenOf_len];exact hr,rfl,rfl,rfl,fun e=>by omega,fun e=>by omega⟩
theorem found_ok {fs:Int}{fl:TLock}{fw bg:Int}(hW:WoOk W)(hq:0≤a.q)(hq4:a.q≤4)(hr:a.rd.length≤1000)(hlk:lk.held=false→lk=⟨lk.version,false,0⟩) :
  Heard W me (fAt W me a bg 3 (.fetch (fetchFound ⟨⟨me,a.q,0,-1,0⟩,W.P.pl me a,W.P.s me a,a.st,fs,fl,fw⟩ lk))) (found W.P me a lk):=by
 have ew:IntKind.wrap .i64 (a.q-1)=a.q-1:=wi64 (by omega) (by omega)
 have hrl:(seenOf a.rd).length≤1000:=by rw [seenOf_len];exact hr
 unfold found fetchFound
 by_cases c:lk.held=true
 ·simp only [if_pos c]
  unfold waitW Pat.waits
  by_cases c2:lk.owner > me
  ·simp only [if_pos c2,if_true]
   refine⟨by rw [told0 rfl];show (3:Int)≠8;decide,by rw [told0 rfl];exact⟨bg,fl,fw,rfl⟩,by rw [told0 rfl];exact hrl,told_f (.inl rfl) hr⟩
  ·simp only [if_neg c2,ew]
   by_cases c3:0≤a.q-1
   ·have c4:decide (a.q-1 ≥ 0)=true:=by simpa using c3
    simp only [if_pos c3,c4,if_true]
    refine⟨by rw [told0 rfl];show (3:Int)≠8;decide,by rw [told0 rfl];exact⟨bg,fl,fw,rfl⟩,by rw [told0 rfl];exact hrl,told_f (.inl rfl) hr⟩
   ·have c4:decide (a.q-1 ≥ 0)=false:=by simpa using c3
    simp only [if_neg c3,c4,Bool.false_eq_true,if_false]
    refine⟨by rw [told5 rfl];show (7:Int)≠8;decide,by rw [told5 rfl];exact go5_of hr rfl,by rw [told5 rfl];exact hrl,told_f (.inr (.inl rfl)) hr⟩
 ·simp only [if_neg c]
  by_cases c2:a.st<lk.version
  ·simp only [if_pos c2,gt_iff_lt]
   have e:attTold (fAt W me a bg 3 (.fetch ⟨(⟨me,a.q,0,-1,0⟩:Pat).stop 6 0 (-1),W.P.pl me a,W.P.s me a,a.st,0,fl,fw⟩))=fAt W me a bg 4 (.ext ⟨newPat me W.s.spins,seenOf a.rd,false,0,0⟩):=rfl
   refine⟨by rw [e];show (4:Int)≠8;decide,?_,by rw [e];exact hrl,told_f (.inr (.inr rfl)) hr⟩
   rw [e,newPat_of hW]
   exact⟨bg,rfl⟩
  ·simp only [if_neg c2,gt_iff_lt]
   have hl:lk=⟨lk.version,false,0⟩:=hlk (by simpa using c)
   refine⟨by rw [told0 rfl];show (3:Int)≠8;decide,?_,by rw [told0 rfl];exact hrl,told_f (.inl rfl) hr⟩
   rw [told0 rfl]
   refine⟨bg,fw,?_⟩
   rw [←hl]
   rfl
theorem att_f0 (hW:WoOk W)(e:a.ph=.f0)(hq:0≤a.q)(hq4:a.q≤4)(hr:a.rd.length≤1000)(hlk:lk.held=false→lk=⟨lk.version,false,0⟩)(h:RA W me t a):attNext t=(⟨3,W.P.s me a,0,0,zeroLock,zeroLock⟩,true)∧AttR' W me t ⟨0,lk,false,0⟩ (found W.P me a lk):=by
 unfold RA at h
 rw [e] at h
 obtain⟨bg,fl,fw,rfl⟩:=h
 exact⟨rfl,(found_ok (me:=me) (fs:=0) (fl:=fl) (fw:=fw) (bg:=bg) hW hq hq4 hr hlk).att (.inl rfl) rfl trivial⟩
theorem att_f1 (e:a.ph=.f1 v)(hr:a.rd.length≤1000)(h:RA W me t a):attNext t=(⟨1,W.P.pl me a,0,0,zeroLock,zeroLock⟩,true)∧AttR' W me t ⟨w,zeroLock,false,0⟩ { a with ph:=.f2 v w }:=by
 unfold RA at h
 rw [e] at h
 obtain⟨bg,fw,rfl⟩:=h
 have hrl:(seenOf a.rd).length≤1000:=by rw [seenOf_len];exact hr
 refine⟨rfl,Heard.att (t:=fAt W me a bg 3 (.fetch ⟨⟨me,a.q,0,-1,0⟩,W.P.pl me a,W.P.s me a,a.st,1,⟨v,false,0⟩,fw⟩)) ?_ (.inl rfl) rfl trivial⟩
 have et:(Inn.fetch ⟨⟨me,a.q,0,-1,0⟩,W.P.pl me a,W.P.s me a,a.st,1,⟨v,false,0⟩,fw⟩).tell ⟨w,zeroLock,false,0⟩=.fetch ⟨⟨me,a.q,0,-1,0⟩,W.P.pl me a,W.P.s me a,a.st,2,⟨v,false,0⟩,w⟩:=rfl
 show Heard W me (fAt W me a bg 3 ((Inn.fetch ⟨⟨me,a.q,0,-1,0⟩,W.P.pl me a,W.P.s me a,a.st,1,⟨v,false,0⟩,fw⟩).tell ⟨w,zeroLock,false,0⟩)) _
 rw [et]
 exact⟨by rw [told0 rfl];show (3:Int)≠8;decide,by rw [told0 rfl];exact⟨bg,rfl⟩,by rw [told0 rfl];exact hrl,told_f (.inl rfl) hr⟩
theorem seenAt_of {l:List (Nat×Int)}{s:Nat}:seenAt (seenOf l) s=(l.find? fun x=>decide (x.1=s)).map (·.2):=by
 unfold seenAt seenOf
 induction l with
 | nil=>rfl
 | cons x l ih =>
  simp only [List.map_cons,List.find?_cons]
  by_cases c:x.1=s
  ·have:((x.1:Nat):Int)=(s:Int):=by rw [c]
   simp [c]
  ·have:¬((x.1:Nat):Int)=(s:Int):=by omega
   rw [decide_eq_false c,decide_eq_false this]
   exact ih
theorem addSeen_of {l:List (Nat×Int)}{s:Nat}(hs:s<16)(hv:v≤1000000000000)(hl:l.length<16)(hc:∀x∈l,x.1=s→x.2=v):addErr 16 (seenOf l) ⟨s,v⟩=0∧addSeen 16 (seenOf l) ⟨s,v⟩=seenOf (addRd l s v):=by
 have n1:¬((s:Int)<0∨16≤(s:Int)∨4611686018427387904≤v):=by omega
 have n2:¬(((seenOf l).length:Nat):Int)=16:=by rw [seenOf_len];omega
 unfold addErr addSeen addRd
 simp only
 rw [if_neg n1,if_neg n1,seenAt_of]
 cases e:l.find? fun x=>decide (x.1=s) with
 | none =>
  have:¬(l.any fun x=>decide (x.1=s))=true:=by
   rw [List.any_eq_true]
   rintro⟨x,hx,g⟩
   have:=List.find?_eq_none.1 e x hx
   exact this g
  rw [if_neg this]
  simp only [Option.map_none]
  rw [if_neg n2,if_neg n2]
  exact⟨rfl,by unfold seenOf;simp⟩
 | some x =>
  have hx:=List.mem_of_find?_eq_some e
  have hg:=List.find?_some e
  have:(l.any fun x=>decide (x.1=s))=true:=List.any_eq_true.2 ⟨x,hx,hg⟩
  rw [if_pos this]
  simp only [Option.map_some]
  rw [if_pos (hc x hx (by simpa using hg))]
  exact⟨rfl,trivial⟩
theorem fetched_heard {X Y:AttS}{f:FetchS}{R:IntG×VwS×Int}{c:AT}(hX:X.inn=.fetch f)(h3:X.state=3)(hf:f.pat.fin=2)(hr:X.rd.length≤1000)(hk:X.v.k.length≤1000)(he:addErr 16 X.rd ⟨f.stripe,f.lock.version⟩=0)(hY:attKnow X f=Y)
  (hR:Runs 500 Y.run Y.v R) (hrY:Y.rd.length≤1000) (hc:R.2.1.l.cells.length≤1000) (hiY:Y.inn=.fetch f) (hw:(attDid Y R).wr=false) (h8:(attDid Y R).state≠8) (hra:RA W me (attDid Y R) c) (hrd:(attDid Y R).rd.length≤1000):Heard W me X c:=by
 have e1:X.inn.fin=2:=by rw [hX];exact hf
 have e2:attEnded X=attFetched X f:=by unfold attEnded;rw [hX]
 have e3:attFetched X f=attDid Y R:=by
  unfold attFetched
  rw [if_neg (by omega),if_pos he,hY]
  unfold attWork
  rw [hR.2]
 have e:attTold X=attDid Y R:=by
  unfold attTold
  rw [if_neg (by omega),if_neg (by omega),e2,e3]
  unfold attMark
  rw [if_neg (by rw [hw];decide)]
 refine⟨by rw [e];exact h8,by rw [e];exact hra,by rw [e];exact hrd,⟨by rw [hX];trivial,fun g hg=>?_,fun g hg=>(by rw [hX] at hg;cases hg),fun g hg=>(by rw [hX] at hg;cases hg)⟩⟩
 rw [hX] at hg
 cases hg
 exact⟨h3,.inr (.inr ⟨.inr hf,hr,hk,fun _ _=>by rw [hY];exact⟨hR.1,by rw [hiY],hrY,by rw [hR.2];exact hc⟩⟩)⟩
theorem got_ok {bg:Int}{ja jb:Int}(hW:WoOk W)(hjb:W.P.job me a.job=.takes ja jb)(hrl:a.rd.length≤1)(hv:v≤1000000000000)(hw:0≤w)(hc:∀x∈a.rd,x.1=W.P.s me a→x.2=v) :
  Heard W me (fAt W me a bg 3 (.fetch ⟨⟨me,a.q,2,-1,0⟩,W.P.pl me a,W.P.s me a,a.st,2,⟨v,false,0⟩,w⟩)) (got W.P me a v w):=by
 have hj:=hW.jobAt me a.job
 rw [hjb] at hj
 obtain⟨hj1,hj2⟩:=hj
 have f1:=hW.fuel
 have f2:=hW.words
 have f3:=hW.wr
 have f4:=hW.str
 have hs1:=hW.sIn me a
 obtain⟨k1,k2⟩:=addSeen_of (l:=a.rd) (s:=W.P.s me a) (v:=v) (by omega) hv (by omega) hc
 have hlen:(addRd a.rd (W.P.s me a) v).length≤2:=by
  unfold addRd
  split
  ·omega
  ·simp;omega
 have hW32:32≤W.s.words.toNat:=by omega
 have hne:ja≠jb:=by omega
 obtain⟨ph,job,st,q,sec,rd,al⟩:=a
 simp only at hjb hrl hc k1 k2 hlen hs1 ⊢
 cases sec with
 | false =>
  have hpl:W.P.pl me ⟨ph,job,st,q,false,rd,al⟩=ja:=by unfold Pr.pl;simp only;rw [hjb];rfl
  have hvk:vKnow (tkO W.s.words.toNat W.s.writes [] ja) ja w=(tkO W.s.words.toNat W.s.writes [⟨ja,w⟩] ja,0):=by
   unfold vKnow
   rw [if_pos (by unfold isV;simp;omega)]
   rfl
  have hY:attKnow (fAt W me ⟨ph,job,st,q,false,rd,al⟩ bg 3 (.fetch ⟨⟨me,q,2,-1,0⟩,W.P.pl me ⟨ph,job,st,q,false,rd,al⟩,W.P.s me ⟨ph,job,st,q,false,rd,al⟩,st,2,⟨v,false,0⟩,w⟩)) ⟨⟨me,q,2,-1,0⟩,W.P.pl me ⟨ph,job,st,q,false,rd,al⟩,W.P.s me ⟨ph,job,st,q,false,rd,al⟩,st,2,⟨v,false,0⟩,w⟩ =
    ⟨me,W.s,tkS ja jb 0 0 [] 1 2 (W.s.fuel-1) [p17],tkO W.s.words.toNat W.s.writes [⟨ja,w⟩] ja,seenOf (addRd rd (W.P.s me ⟨ph,job,st,q,false,rd,al⟩) v),3,.fetch ⟨⟨me,q,2,-1,0⟩,W.P.pl me ⟨ph,job,st,q,false,rd,al⟩,W.P.s me ⟨ph,job,st,q,false,rd,al⟩,st,2,⟨v,false,0⟩,w⟩,true,bg,st,0,-1,0,false⟩:=by
   unfold attKnow attSeen
   simp only
   rw [k2,hjb]
   show (⟨_,_,_,(vKnow (tkO W.s.words.toNat W.s.writes [] ja) ja w).1,_,_,_,_,_,_,_,_,_,_⟩:AttS)=_
   rw [hvk]
   rfl
  unfold got
  by_cases cw:w≠0
  ·rw [if_pos cw]
   have hcm:=com_new (W:=W) (me:=me) (a:=⟨.c0,job,st,W.s.spins,false,addRd rd (W.P.s me ⟨ph,job,st,q,false,rd,al⟩) v,al⟩) (bl:=false) (rn:={ tkS ja jb w 1 [1] 16 16 (W.s.fuel-8) [] with fin:=2 }) (vw:=tkW W.s.words.toNat W.s.writes [⟨ja,w⟩] ja ⟨ja,0⟩) (bg:=bg) (sm:=st) hW rfl rfl rfl (by show (addRd rd _ v).length≤1000;omega) (by
    show [(⟨ja,0⟩:TCell)]=[⟨W.P.pl me ⟨.c0,job,st,W.s.spins,false,addRd rd _ v,al⟩,(W.P.job me job).word⟩]
    rw [hjb]
    unfold Pr.pl
    simp only
    rw [hjb];rfl) (by simp) rfl (TextOk_one (by decide))
   refine fetched_heard rfl rfl rfl (by show (seenOf rd).length≤1000;rw [seenOf_len];omega) vwF_k.1 k1 hY (run_tkA (n:=491) (nx:=2) (by omega) (by omega) hW32 (by omega) (by omega) (by omega)) (by simp only;rw [seenOf_len];omega) (by simp [tkW,LvS.cells]) rfl ?_ ?_ ?_ ?_
   ·exact(by rfl:_=false)
   ·show (6:Int)≠8;decide
   ·exact⟨zeroLock,0,hcm⟩
   ·show (seenOf (addRd rd _ v)).length≤1000;rw [seenOf_len];omega
  ·rw [if_neg cw,if_neg (fun g=>by cases g)]
   have cw:w=0:=by omega
   subst cw
   have hs2:=hW.strIn (c:=jb) (by omega)
   refine fetched_heard rfl rfl rfl (by show (seenOf rd).length≤1000;rw [seenOf_len];omega) vwF_k.1 k1 hY (run_tkB (n:=494) (nx:=2) (by omega) (by omega) hW32 (by omega) (by omega) hne (by omega)) (by simp only;rw [seenOf_len];omega) (by simp [tkO,LvS.cells,putsC]) rfl ?_ ?_ ?_ ?_
   ·exact(by rfl:_=false)
   ·show (3:Int)≠8;decide
   ·refine⟨bg,zeroLock,0,?_⟩
    have hpl2:W.P.pl me ⟨.f0,job,st,W.s.spins,true,addRd rd (W.P.s me ⟨ph,job,st,q,false,rd,al⟩) v,al⟩=jb:=by unfold Pr.pl;simp only;rw [hjb];rfl
    have hps2:W.P.s me ⟨.f0,job,st,W.s.spins,true,addRd rd (W.P.s me ⟨ph,job,st,q,false,rd,al⟩) v,al⟩=W.str jb:=congrArg W.P.str hpl2
    show _=fAt W me ⟨.f0,job,st,W.s.spins,true,addRd rd (W.P.s me ⟨ph,job,st,q,false,rd,al⟩) v,al⟩ bg 3 (.fetch ⟨⟨me,W.s.spins,0,-1,0⟩,W.P.pl me ⟨.f0,job,st,W.s.spins,true,addRd rd (W.P.s me ⟨ph,job,st,q,false,rd,al⟩) v,al⟩,W.P.s me ⟨.f0,job,st,W.s.spins,true,addRd rd (W.P.s me ⟨ph,job,st,q,false,rd,al⟩) v,al⟩,st,0,zeroLock,0⟩)
    rw [hps2,hpl2]
    unfold fAt attDid attAsk fetchNew
    simp only [newPat_of hW,hjb,hs2.1]
    rfl
   ·show (seenOf (addRd rd _ v)).length≤1000;rw [seenOf_len];omega
 | true =>
  have hpl:W.P.pl me ⟨ph,job,st,q,true,rd,al⟩=jb:=by unfold Pr.pl;simp only;rw [hjb];rfl
  have hvk:vKnow (tkO W.s.words.toNat W.s.writes [⟨ja,0⟩] jb) jb w=(tkO W.s.words.toNat W.s.writes [⟨ja,0⟩,⟨jb,w⟩] jb,0):=by
   unfold vKnow
   rw [if_pos (by unfold isV;simp;omega)]
   simp [lookC,hne]
  have hY:attKnow (fAt W me ⟨ph,job,st,q,true,rd,al⟩ bg 3 (.fetch ⟨⟨me,q,2,-1,0⟩,W.P.pl me ⟨ph,job,st,q,true,rd,al⟩,W.P.s me ⟨ph,job,st,q,true,rd,al⟩,st,2,⟨v,false,0⟩,w⟩)) ⟨⟨me,q,2,-1,0⟩,W.P.pl me ⟨ph,job,st,q,true,rd,al⟩,W.P.s me ⟨ph,job,st,q,true,rd,al⟩,st,2,⟨v,false,0⟩,w⟩ =
    ⟨me,W.s,tkS ja jb 0 0 [] 8 9 (W.s.fuel-6) [p18],tkO W.s.words.toNat W.s.writes [⟨ja,0⟩,⟨jb,w⟩] jb,seenOf (addRd rd (W.P.s me ⟨ph,job,st,q,true,rd,al⟩) v),3,.fetch ⟨⟨me,q,2,-1,0⟩,W.P.pl me ⟨ph,job,st,q,true,rd,al⟩,W.P.s me ⟨ph,job,st,q,true,rd,al⟩,st,2,⟨v,false,0⟩,w⟩,true,bg,st,0,-1,0,false⟩:=by
   unfold attKnow attSeen
   simp only
   rw [k2,hjb]
   show (⟨_,_,_,(vKnow (tkO W.s.words.toNat W.s.writes [⟨ja,0⟩] jb) jb w).1,_,_,_,_,_,_,_,_,_,_⟩:AttS)=_
   rw [hvk]
   rfl
  unfold got
  by_cases cw:w≠0
  ·rw [if_pos cw]
   have hcm:=com_new (W:=W) (me:=me) (a:=⟨.c0,job,st,W.s.spins,true,addRd rd (W.P.s me ⟨ph,job,st,q,true,rd,al⟩) v,al⟩) (bl:=false) (rn:={ tkS ja jb w 2 [2] 16 16 (W.s.fuel-13) [] with fin:=2 }) (vw:=tkW W.s.words.toNat W.s.writes [⟨ja,0⟩,⟨jb,w⟩] jb ⟨jb,0⟩) (bg:=bg) (sm:=st) hW rfl rfl rfl (by show (addRd rd _ v).length≤1000;omega) (by
    show [(⟨jb,0⟩:TCell)]=[⟨W.P.pl me ⟨.c0,job,st,W.s.spins,true,addRd rd _ v,al⟩,(W.P.job me job).word⟩]
    rw [hjb]
    unfold Pr.pl
    simp only
    rw [hjb];rfl) (by simp) rfl (TextOk_one (by decide))
   refine fetched_heard rfl rfl rfl (by show (seenOf rd).length≤1000;rw [seenOf_len];omega) vwF_k.1 k1 hY (run_tkC (n:=491) (nx:=9) (by omega) (by omega) hW32 (by omega) hne (by omega) (by omega)) (by simp only;rw [seenOf_len];omega) (by simp [tkW,LvS.cells]) rfl ?_ ?_ ?_ ?_
   ·exact(by rfl:_=false)
   ·show (6:Int)≠8;decide
   ·exact⟨zeroLock,0,hcm⟩
   ·show (seenOf (addRd rd _ v)).length≤1000;rw [seenOf_len];omega
  ·rw [if_neg cw,if_pos rfl]
   have cw:w=0:=by omega
   subst cw
   refine fetched_heard rfl rfl rfl (by show (seenOf rd).length≤1000;rw [seenOf_len];omega) vwF_k.1 k1 hY (run_tkD (n:=494) (nx:=9) (by omega) (by omega) hW32 (by omega) hne (by omega)) (by simp only;rw [seenOf_len];omega) (by simp [tkV,LvS.cells]) rfl ?_ ?_ ?_ ?_
   ·exact(by rfl:_=false)
   ·show (5:Int)≠8;decide
   ·refine⟨⟨rfl,rfl,by show 2≤1000;decide,by show 0≤1000;decide,rfl⟩,rfl,rfl,?_,rfl⟩
    show Inn.ext (extNew me W.s.spins (seenOf (addRd rd _ v)))=_
    unfold extNew
    rw [newPat_of hW]
   ·show (seenOf (addRd rd _ v)).length≤1000;rw [seenOf_len];omega
theorem att_f2 (hW:WoOk W)(e:a.ph=.f2 v w)(hq:0≤a.q)(hq4:a.q≤4)(hrl:a.rd.length≤1)(hv:v≤1000000000000)(hw:0≤w)(htk:(W.P.job me a.job).tk=true)(hc:lk=⟨v,false,0⟩→∀x∈a.rd,x.1=W.P.s me a→x.2=v)
  (hlk:lk.held=false→lk=⟨lk.version,false,0⟩) (h:RA W me t a) :
  attNext t=(⟨3,W.P.s me a,0,0,zeroLock,zeroLock⟩,true)∧AttR' W me t ⟨0,lk,false,0⟩ (if lk=⟨v,false,0⟩ then got W.P me a v w else found W.P me a lk):=by
 unfold RA at h
 rw [e] at h
 obtain⟨bg,rfl⟩:=h
 refine⟨rfl,Heard.att (t:=fAt W me a bg 3 (.fetch ⟨⟨me,a.q,0,-1,0⟩,W.P.pl me a,W.P.s me a,a.st,2,⟨v,false,0⟩,w⟩)) ?_ (.inl rfl) rfl trivial⟩
 show Heard W me (fAt W me a bg 3 (.fetch (fetchTell ⟨⟨me,a.q,0,-1,0⟩,W.P.pl me a,W.P.s me a,a.st,2,⟨v,false,0⟩,w⟩ ⟨0,lk,false,0⟩))) _
 by_cases c:lk=⟨v,false,0⟩
 ·rw [if_pos c]
  have et:fetchTell ⟨⟨me,a.q,0,-1,0⟩,W.P.pl me a,W.P.s me a,a.st,2,⟨v,false,0⟩,w⟩ ⟨0,lk,false,0⟩=⟨⟨me,a.q,2,-1,0⟩,W.P.pl me a,W.P.s me a,a.st,2,⟨v,false,0⟩,w⟩:=by
   simp [fetchTell,Pat.stopped,Pat.stop,c]
  rw [et]
  cases hjb:W.P.job me a.job with
  | puts d=>rw [hjb] at htk;cases htk
  | takes ja jb=>exact got_ok hW hjb hrl hv hw (hc c)
 ·rw [if_neg c]
  have et:fetchTell ⟨⟨me,a.q,0,-1,0⟩,W.P.pl me a,W.P.s me a,a.st,2,⟨v,false,0⟩,w⟩ ⟨0,lk,false,0⟩=fetchFound ⟨⟨me,a.q,0,-1,0⟩,W.P.pl me a,W.P.s me a,a.st,2,⟨v,false,0⟩,w⟩ lk:=by
   simp [fetchTell,Pat.stopped,c]
  rw [et]
  exact found_ok hW hq hq4 (by omega) hlk
theorem ext_heard_f {bg:Int}{e:ExtS}{c:AT}(hW:WoOk W)(ho:ExtOk e)(hl:e.seen.length≤1000000)(hr:a.rd.length≤1000)
  (h:(e.pat.fin=0∧RA W me (fAt W me a bg 4 (.ext e)) c)∨(e.pat.fin=5∧c.ph=.go 5 e.pat.by_)∨(e.pat.fin=2∧(W.P.job me a.job).tk=true∧c=extended W.P a false e.stamp)):Heard W me (fAt W me a bg 4 (.ext e)) c:=by
 have hrl:(seenOf a.rd).length≤1000:=by rw [seenOf_len];exact hr
 have hto:ToldOk (fAt W me a bg 4 (.ext e)):=⟨⟨ho,hl⟩,fun g e'=>(by cases e'),fun g e'=>(by cases e';exact⟨.inl rfl,by rcases h with h | h | h;exact .inl h.1;exact .inr (.inl h.1);exact .inr (.inr h.1)⟩),fun g e'=>(by cases e')⟩
 have e1:(fAt W me a bg 4 (.ext e)).inn.fin=e.pat.fin:=rfl
 rcases h with ⟨h1,h2⟩ | ⟨h1,h2⟩ | ⟨h1,htk,h2⟩
 ·have et:attTold (fAt W me a bg 4 (.ext e))=fAt W me a bg 4 (.ext e):=by
   unfold attTold
   rw [if_pos (by rw [e1];exact h1)]
   unfold attMark
   rw [if_neg (by simp [AttS.wr])]
  exact⟨by rw [et];show (4:Int)≠8;decide,by rw [et];exact h2,by rw [et];exact hrl,hto⟩
 ·have et:attTold (fAt W me a bg 4 (.ext e))=attOut (fAt W me a bg 4 (.ext e)) 5 0 e.pat.by_:=by
   unfold attTold
   rw [if_neg (by rw [e1];omega),if_pos (by rw [e1];exact h1)]
   unfold attMark
   rw [if_neg (by simp [AttS.wr])]
  exact⟨by rw [et];show (7:Int)≠8;decide,by rw [et];exact go5_of hr h2,by rw [et];exact hrl,hto⟩
 ·have hs1:=hW.sIn me a
  have et:attTold (fAt W me a bg 4 (.ext e))=fAt W me (extended W.P a false e.stamp) bg 3 (.fetch ⟨⟨me,W.s.spins,0,-1,0⟩,W.P.pl me a,W.P.s me a,e.stamp,0,zeroLock,0⟩):=by
   unfold attTold
   rw [if_neg (by rw [e1];omega),if_neg (by rw [e1];omega)]
   have ee:attEnded (fAt W me a bg 4 (.ext e))=attAsk { fAt W me a bg 4 (.ext e) with stamp:=e.stamp } (vwF W (W.P.job me a.job) a.sec).need:=rfl
   have en:(vwF W (W.P.job me a.job) a.sec).need=W.P.pl me a:=by
    unfold Pr.pl vwF
    cases hjb:W.P.job me a.job with
    | puts d=>rw [hjb] at htk;cases htk
    | takes ja jb=>cases a.sec <;> rfl
   rw [ee,en]
   unfold attMark
   rw [if_neg (by simp [AttS.wr])]
   unfold attAsk fetchNew
   simp only [newPat_of hW,hs1.1]
   rfl
  subst h2
  refine⟨by rw [et];show (3:Int)≠8;decide,?_,by rw [et];exact hrl,hto⟩
  rw [et]
  exact⟨bg,zeroLock,0,rfl⟩
theorem ext_heard_b {X:AttS}{e:ExtS}{c:AT}(hX:BlkR W me X a e)(ho:ExtOk e)(hl:e.seen.length≤1000000)(hr:a.rd.length≤1000)
  (h:(e.pat.fin=0∧RA W me X c)∨(e.pat.fin=5∧c.ph=.go 5 e.pat.by_)∨(e.pat.fin=2∧c=extended W.P a true e.stamp)):Heard W me X c:=by
 obtain⟨g,r,st,inn,bl⟩:=hX
 have hrl:X.rd.length≤1000:=by rw [r,seenOf_len];exact hr
 have hto:ToldOk X:=⟨by rw [inn];exact⟨ho,hl⟩,fun g e'=>(by rw [inn] at e';cases e'),fun g e'=>(by rw [inn] at e';cases e';exact⟨.inr st,by rcases h with h | h | h;exact .inl h.1;exact .inr (.inl h.1);exact .inr (.inr h.1)⟩),fun g e'=>(by rw [inn] at e';cases e')⟩
 have e1:X.inn.fin=e.pat.fin:=by rw [inn]
 have e2:X.inn.by_=e.pat.by_:=by rw [inn]
 have hwr:∀y:AttS,y.inn=X.inn→y.wr=false:=fun y hy=>by unfold AttS.wr;rw [hy,inn];simp
 rcases h with ⟨h1,h2⟩ | ⟨h1,h2⟩ | ⟨h1,h2⟩
 ·have et:attTold X=X:=by
   unfold attTold
   rw [if_pos (by rw [e1];exact h1)]
   unfold attMark
   rw [if_neg (by rw [hwr X rfl];decide)]
  exact⟨by rw [et,st];decide,by rw [et];exact h2,by rw [et];exact hrl,hto⟩
 ·have et:attTold X=attOut X 5 0 e.pat.by_:=by
   unfold attTold
   rw [if_neg (by rw [e1];omega),if_pos (by rw [e1];exact h1),e2]
   unfold attMark
   rw [if_neg (fun g=>by rw [hwr _ (by rfl)] at g;cases g)]
  refine⟨by rw [et];show (7:Int)≠8;decide,?_,by rw [et];exact hrl,hto⟩
  rw [et]
  unfold RA
  rw [h2]
  exact⟨⟨g.who,g.set,g.known,g.cells,g.frees⟩,hrl,rfl,rfl,rfl,fun e=>by omega,fun e=>by omega⟩
 ·have et:attTold X=attOut { X with stamp:=e.stamp } 3 0 (-1):=by
   unfold attTold
   rw [if_neg (by rw [e1];omega),if_neg (by rw [e1];omega)]
   have ee:attEnded X=attOut { X with stamp:=e.stamp } 3 0 (-1):=by
    unfold attEnded
    rw [inn]
    simp only
    rw [if_neg (by omega)]
   rw [ee]
   unfold attMark
   rw [if_neg (fun g=>by rw [hwr _ (by rfl)] at g;cases g)]
  subst h2
  refine⟨by rw [et];show (7:Int)≠8;decide,?_,by rw [et];exact hrl,hto⟩
  rw [et]
  exact⟨⟨g.who,g.set,g.known,g.cells,g.frees⟩,hrl,rfl,rfl,rfl,fun e=>by omega,fun _=>⟨bl,r⟩⟩
theorem ext_tell {T:Int}{i:Nat}(hq:0≤a.q)(hq4:a.q≤4)(hi:i<a.rd.length):extTell ⟨⟨me,a.q,0,-1,0⟩,seenOf a.rd,true,i,T⟩ ⟨0,lk,false,0⟩ =
  if lk.held=true then (if lk.owner > me then ⟨⟨me,a.q,0,-1,0⟩,seenOf a.rd,true,i,T⟩ else if 0≤a.q-1 then ⟨⟨me,a.q-1,0,-1,0⟩,seenOf a.rd,true,i,T⟩ else ⟨⟨me,a.q-1,5,lk.owner,0⟩,seenOf a.rd,true,i,T⟩)
  else if lk.version≠(rdAt a i).2 then ⟨⟨me,a.q,5,-1,0⟩,seenOf a.rd,true,i,T⟩
  else if i+1=a.rd.length then ⟨⟨me,a.q,2,-1,0⟩,seenOf a.rd,true,i+1,T⟩ else ⟨⟨me,a.q,0,-1,0⟩,seenOf a.rd,true,i+1,T⟩:=by
 have ew:IntKind.wrap .i64 (a.q-1)=a.q-1:=wi64 (by omega) (by omega)
 unfold extTell
 rw [if_pos (by rfl)]
 simp only [seenOf_at hi]
 rw [if_neg (by decide)]
 by_cases c:lk.held=true
 ·simp only [if_pos c]
  unfold Pat.waits
  by_cases c2:lk.owner > me
  ·simp only [if_pos c2,if_true]
  ·simp only [if_neg c2,ew]
   by_cases c3:0≤a.q-1
   ·have c4:decide (a.q-1 ≥ 0)=true:=by simpa using c3
    simp only [if_pos c3,c4,if_true]
   ·have c4:decide (a.q-1 ≥ 0)=false:=by simpa using c3
    simp only [if_neg c3,c4,Bool.false_eq_true,if_false]
    rfl
 ·simp only [if_neg c]
  by_cases c2:lk.version=(rdAt a i).2
  ·rw [if_pos c2,if_neg (fun g=>g c2)]
   unfold extDone
   simp only [seenOf_len]
   split <;> rfl
  ·rw [if_neg c2,if_pos c2]
   rfl
theorem att_x0 {T:Int}{blk:Bool}(hW:WoOk W)(e:a.ph=.x0 blk)(hr:a.rd.length≤1000)(htk:(W.P.job me a.job).tk=true)(h:RA W me t a) :
  attNext t=(⟨6,0,0,0,zeroLock,zeroLock⟩,true)∧AttR' W me t ⟨T,zeroLock,false,0⟩ (if a.rd=[] then extended W.P a blk T else { a with ph:=.x1 blk T 0 }):=by
 unfold RA at h
 rw [e] at h
 have et:extTell ⟨⟨me,a.q,0,-1,0⟩,seenOf a.rd,false,0,0⟩ ⟨T,zeroLock,false,0⟩=if a.rd=[] then ⟨⟨me,a.q,2,-1,0⟩,seenOf a.rd,true,0,T⟩ else ⟨⟨me,a.q,0,-1,0⟩,seenOf a.rd,true,0,T⟩:=by
  unfold extTell
  rw [if_pos (by rfl),if_pos rfl]
  unfold extDone
  simp only [seenOf_len]
  by_cases c:a.rd=[]
  ·rw [if_pos (by rw [c];rfl),if_pos c];rfl
  ·rw [if_neg (fun g=>c (List.length_eq_zero_iff.1 g.symm)),if_neg c]
 have hl:∀x:ExtS,x.seen=seenOf a.rd→x.seen.length≤1000000:=fun x g=>by rw [g,seenOf_len];omega
 have hok0:ExtOk ⟨⟨me,a.q,0,-1,0⟩,seenOf a.rd,false,0,0⟩:=fun _ g=>by cases g
 cases blk with
 | true =>
  have h:BlkR W me t a ⟨⟨me,a.q,0,-1,0⟩,seenOf a.rd,false,0,0⟩:=by simpa using h
  have hok:t.inn.ok:=by rw [h.inn];exact⟨hok0,hl _ rfl⟩
  refine⟨?_,Heard.att (t:=t) ?_ (.inr (.inr (.inl h.st))) rfl hok⟩
  ·unfold attNext
   rw [if_neg (by rw [h.st];decide),if_neg (by rw [h.st];decide),if_neg (by rw [h.st];decide),if_neg (by rw [h.st];decide),if_neg (by rw [h.st];decide),h.inn]
   rfl
  ·rw [h.inn]
   show Heard W me { t with inn:=.ext (extTell ⟨⟨me,a.q,0,-1,0⟩,seenOf a.rd,false,0,0⟩ ⟨T,zeroLock,false,0⟩) } _
   rw [et]
   have hb:∀x:ExtS,BlkR W me { t with inn:=.ext x } a x:=fun x=>⟨⟨h.g.who,h.g.set,h.g.known,h.g.cells,h.g.frees⟩,h.rd,h.st,rfl,h.bl⟩
   have hb2:∀(x:ExtS) (c:AT),c.rd=a.rd→BlkR W me { t with inn:=.ext x } c x:=fun x c g=>⟨⟨h.g.who,h.g.set,h.g.known,h.g.cells,h.g.frees⟩,by rw [g];exact h.rd,h.st,rfl,h.bl⟩
   by_cases c:a.rd=[]
   ·simp only [if_pos c]
    exact ext_heard_b (hb _) (fun g=>by cases g) (hl _ rfl) hr (.inr (.inr ⟨rfl,rfl⟩))
   ·simp only [if_neg c]
    have hp:0<(seenOf a.rd).length:=by rw [seenOf_len];exact List.length_pos_iff.2 c
    refine ext_heard_b (hb _) (fun _ _=>hp) (hl _ rfl) hr (.inl ⟨rfl,?_⟩)
    unfold RA
    simp only [if_true]
    exact hb2 _ _ rfl
 | false =>
  have h:∃b,t=fAt W me a b 4 (.ext ⟨⟨me,a.q,0,-1,0⟩,seenOf a.rd,false,0,0⟩):=by simpa using h
  obtain⟨bg,rfl⟩:=h
  refine⟨rfl,Heard.att (t:=fAt W me a bg 4 (.ext ⟨⟨me,a.q,0,-1,0⟩,seenOf a.rd,false,0,0⟩)) ?_ (.inr (.inl rfl)) rfl ⟨hok0,hl _ rfl⟩⟩
  show Heard W me (fAt W me a bg 4 (.ext (extTell ⟨⟨me,a.q,0,-1,0⟩,seenOf a.rd,false,0,0⟩ ⟨T,zeroLock,false,0⟩))) _
  rw [et]
  by_cases c:a.rd=[]
  ·simp only [if_pos c]
   exact ext_heard_f hW (fun g=>by cases g) (hl _ rfl) hr (.inr (.inr ⟨rfl,htk,rfl⟩))
  ·simp only [if_neg c]
   have hp:0<(seenOf a.rd).length:=by rw [seenOf_len];exact List.length_pos_iff.2 c
   refine ext_heard_f hW (fun _ _=>hp) (hl _ rfl) hr (.inl ⟨rfl,?_⟩)
   unfold RA
   simp only [Bool.false_eq_true,if_false]
   exact⟨bg,rfl⟩
theorem att_x1 {T:Int}{blk:Bool}{i:Nat}(hW:WoOk W)(e:a.ph=.x1 blk T i)(hi:i<a.rd.length)(hq:0≤a.q)(hq4:a.q≤4)(hr:a.rd.length≤1000)(htk:(W.P.job me a.job).tk=true)(h:RA W me t a) :
  attNext t=(⟨3,(rdAt a i).1,0,0,zeroLock,zeroLock⟩,true)∧AttR' W me t ⟨0,lk,false,0⟩ (if lk.held=true then waitW me a lk.owner (.go 5 lk.owner)
   else if lk.version≠(rdAt a i).2 then { a with ph:=.go 5 (-1) }
   else if i+1=a.rd.length then extended W.P a blk T else { a with ph:=.x1 blk T (i+1) }):=by
 unfold RA at h
 rw [e] at h
 have et:=ext_tell (me:=me) (lk:=lk) (T:=T) hq hq4 hi
 have hl:∀x:ExtS,x.seen=seenOf a.rd→x.seen.length≤1000000:=fun x g=>by rw [g,seenOf_len];omega
 have hp:i<(seenOf a.rd).length:=by rw [seenOf_len];exact hi
 have hok0:∀q,ExtOk ⟨⟨me,q,0,-1,0⟩,seenOf a.rd,true,i,T⟩:=fun q _ _=>hp
 cases blk with
 | true =>
  have h:BlkR W me t a ⟨⟨me,a.q,0,-1,0⟩,seenOf a.rd,true,i,T⟩:=by simpa using h
  have hok:t.inn.ok:=by rw [h.inn];exact⟨hok0 _,hl _ rfl⟩
  refine⟨?_,Heard.att (t:=t) ?_ (.inr (.inr (.inl h.st))) rfl hok⟩
  ·unfold attNext
   rw [if_neg (by rw [h.st];decide),if_neg (by rw [h.st];decide),if_neg (by rw [h.st];decide),if_neg (by rw [h.st];decide),if_neg (by rw [h.st];decide),h.inn]
   show ((⟨3,((seenOf a.rd).getD i ⟨0,0⟩).stripe,0,0,zeroLock,zeroLock⟩:TOp),true)=_
   rw [seenOf_at hi]
  ·rw [h.inn]
   show Heard W me { t with inn:=.ext (extTell ⟨⟨me,a.q,0,-1,0⟩,seenOf a.rd,true,i,T⟩ ⟨0,lk,false,0⟩) } _
   rw [et]
   have hb:∀x:ExtS,BlkR W me { t with inn:=.ext x } a x:=fun x=>⟨⟨h.g.who,h.g.set,h.g.known,h.g.cells,h.g.frees⟩,h.rd,h.st,rfl,h.bl⟩
   have hb2:∀(x:ExtS) (c:AT),c.rd=a.rd→BlkR W me { t with inn:=.ext x } c x:=fun x c g=>⟨⟨h.g.who,h.g.set,h.g.known,h.g.cells,h.g.frees⟩,by rw [g];exact h.rd,h.st,rfl,h.bl⟩
   by_cases c:lk.held=true
   ·simp only [if_pos c]
    unfold waitW
    by_cases c2:lk.owner > me
    ·simp only [if_pos c2]
     refine ext_heard_b (hb _) (hok0 _) (hl _ rfl) hr (.inl ⟨rfl,?_⟩)
     unfold RA
     rw [e]
     simp only [if_true]
     exact hb _
    ·simp only [if_neg c2]
     by_cases c3:0≤a.q-1
     ·simp only [if_pos c3]
      refine ext_heard_b (hb _) (hok0 _) (hl _ rfl) hr (.inl ⟨rfl,?_⟩)
      unfold RA
      simp only [e,if_true]
      exact⟨(hb _).g,(hb ⟨⟨me,a.q-1,0,-1,0⟩,seenOf a.rd,true,i,T⟩).rd,(hb ⟨⟨me,a.q-1,0,-1,0⟩,seenOf a.rd,true,i,T⟩).st,rfl,h.bl⟩
     ·simp only [if_neg c3]
      exact ext_heard_b (hb _) (fun g=>by cases g) (hl _ rfl) hr (.inr (.inl ⟨rfl,rfl⟩))
   ·simp only [if_neg c]
    by_cases c2:lk.version≠(rdAt a i).2
    ·simp only [if_pos c2]
     exact ext_heard_b (hb _) (fun g=>by cases g) (hl _ rfl) hr (.inr (.inl ⟨rfl,rfl⟩))
    ·simp only [if_neg c2]
     by_cases c3:i+1=a.rd.length
     ·simp only [if_pos c3]
      exact ext_heard_b (hb _) (fun g=>by cases g) (hl _ rfl) hr (.inr (.inr ⟨rfl,rfl⟩))
     ·simp only [if_neg c3]
      refine ext_heard_b (hb _) (fun _ _=>by show i+1<(seenOf a.rd).length;rw [seenOf_len];omega) (hl _ rfl) hr (.inl ⟨rfl,?_⟩)
      unfold RA
      simp only [if_true]
      exact hb2 _ _ rfl
 | false =>
  have h:∃b,t=fAt W me a b 4 (.ext ⟨⟨me,a.q,0,-1,0⟩,seenOf a.rd,true,i,T⟩):=by simpa using h
  obtain⟨bg,rfl⟩:=h
  refine⟨?_,Heard.att (t:=fAt W me a bg 4 (.ext ⟨⟨me,a.q,0,-1,0⟩,seenOf a.rd,true,i,T⟩)) ?_ (.inr (.inl rfl)) rfl ⟨hok0 _,hl _ rfl⟩⟩
  ·show ((⟨3,((seenOf a.rd).getD i ⟨0,0⟩).stripe,0,0,zeroLock,zeroLock⟩:TOp),true)=_
   rw [seenOf_at hi]
  show Heard W me (fAt W me a bg 4 (.ext (extTell ⟨⟨me,a.q,0,-1,0⟩,seenOf a.rd,true,i,T⟩ ⟨0,lk,false,0⟩))) _
  rw [et]
  by_cases c:lk.held=true
  ·simp only [if_pos c]
   unfold waitW
   by_cases c2:lk.owner > me
   ·simp only [if_pos c2]
    refine ext_heard_f hW (hok0 _) (hl _ rfl) hr (.inl ⟨rfl,?_⟩)
    unfold RA
    rw [e]
    simp only [Bool.false_eq_true,if_false]
    exact⟨bg,rfl⟩
   ·simp only [if_neg c2]
    by_cases c3:0≤a.q-1
    ·simp only [if_pos c3]
     refine ext_heard_f hW (hok0 _) (hl _ rfl) hr (.inl ⟨rfl,?_⟩)
     unfold RA
     simp only [e,Bool.false_eq_true,if_false]
     exact⟨bg,rfl⟩
    ·simp only [if_neg c3]
     exact ext_heard_f hW (fun g=>by cases g) (hl _ rfl) hr (.inr (.inl ⟨rfl,rfl⟩))
  ·simp only [if_neg c]
   by_cases c2:lk.version≠(rdAt a i).2
   ·simp only [if_pos c2]
    exact ext_heard_f hW (fun g=>by cases g) (hl _ rfl) hr (.inr (.inl ⟨rfl,rfl⟩))
   ·simp only [if_neg c2]
    by_cases c3:i+1=a.rd.length
    ·simp only [if_pos c3]
     exact ext_heard_f hW (fun g=>by cases g) (hl _ rfl) hr (.inr (.inr ⟨rfl,htk,rfl⟩))
    ·simp only [if_neg c3]
     refine ext_heard_f hW (fun _ _=>by show i+1<(seenOf a.rd).length;rw [seenOf_len];omega) (hl _ rfl) hr (.inl ⟨rfl,?_⟩)
     unfold RA
     simp only [Bool.false_eq_true,if_false]
     exact⟨bg,rfl⟩
end
section
variable {W:Wo}{me:Nat}{m:AM}{a a':AT}{t:AttS}{v w V now b:Int}{lk:TLock}
theorem attMark_is (y:AttS):∃z,attMark y={ y with stamp:=z }:=by
 unfold attMark
 split
 ·exact⟨_,rfl⟩
 ·exact⟨y.stamp,rfl⟩
theorem com_heard {M':ComS}{M:ComS}{c:AT}(h:CmR W me t M)(hm:ComOk M')(hc:(M'.pat.fin=0∧∀x,CmR W me x M'→RA W me x c)∨(M'.pat.fin=2∧c.ph=.go 2 (-1))∨(M'.pat.fin=5∧c.ph=.go 5 M'.pat.by_)):Heard W me { t with inn:=.com M' } c:=by
 have hto:ToldOk { t with inn:=.com M' }:=⟨hm,fun g e=>(by cases e),fun g e=>(by cases e),fun g e=>h.st⟩
 rcases hc with ⟨h1,h2⟩ | ⟨h1,h2⟩ | ⟨h1,h2⟩
 ·have et:attTold { t with inn:=.com M' }=attMark { t with inn:=.com M' }:=by
   unfold attTold
   rw [if_pos h1]
  obtain⟨z,ez⟩:=attMark_is { t with inn:=.com M' }
  rw [ez] at et
  refine⟨by rw [et];show t.state≠8;rw [h.st];decide,?_,by rw [et];exact h.rd,hto⟩
  rw [et]
  exact h2 _ ⟨⟨h.g.who,h.g.set,h.g.known,h.g.cells,h.g.frees⟩,h.rd,h.items,h.st,rfl⟩
 ·have et:attTold { t with inn:=.com M' }=attMark (attOut { t with inn:=.com M' } 2 M'.pat.err (-1)):=by
   unfold attTold
   rw [if_neg (by show ¬M'.pat.fin=0;omega),if_neg (by show ¬M'.pat.fin=5;omega)]
   show attMark (attOut { t with inn:=.com M' } M'.pat.fin M'.pat.err (-1))=_
   rw [h1]
  obtain⟨z,ez⟩:=attMark_is (attOut { t with inn:=.com M' } 2 M'.pat.err (-1))
  rw [ez] at et
  refine⟨by rw [et];show (7:Int)≠8;decide,?_,by rw [et];exact h.rd,hto⟩
  rw [et]
  unfold RA
  rw [h2]
  exact⟨⟨h.g.who,h.g.set,h.g.known,h.g.cells,h.g.frees⟩,h.rd,rfl,rfl,rfl,fun _=>h.items,fun e=>by omega⟩
 ·have et:attTold { t with inn:=.com M' }=attMark (attOut { t with inn:=.com M' } 5 0 M'.pat.by_):=by
   unfold attTold
   rw [if_neg (by show ¬M'.pat.fin=0;omega),if_pos h1]
  obtain⟨z,ez⟩:=attMark_is (attOut { t with inn:=.com M' } 5 0 M'.pat.by_)
  rw [ez] at et
  refine⟨by rw [et];show (7:Int)≠8;decide,?_,by rw [et];exact h.rd,hto⟩
  rw [et]
  unfold RA
  rw [h2]
  exact⟨⟨h.g.who,h.g.set,h.g.known,h.g.cells,h.g.frees⟩,h.rd,rfl,rfl,rfl,fun e=>by omega,fun e=>by omega⟩
theorem com_ok {q st:Int}{was:List TLock}{state:Int}{pos:Nat}{wr:Bool}{fin by_ err:Int}(hr:a.rd.length≤1000)(h:((state=0∨state=1)∧was=[]∧pos=0)∨((state=2∨state=3∨state=5∨state=6)∧was.length=1∧pos=0)∨(state=4∧was.length=1∧pos<a.rd.length)∨(state=7∧was.length=1∧fin≠0∧pos=0)) :
  ComOk (cm W me a q st was state pos lk now wr fin by_ err):=by
 have hl:was.length≤1:=by rcases h with ⟨_,h,_⟩ | ⟨_,h,_⟩ | ⟨_,h,_⟩ | ⟨_,h,_⟩ <;> simp [h]
 have hs:(seenOf a.rd).length≤1000:=by rw [seenOf_len];exact hr
 refine⟨⟨List.pairwise_singleton _ _,by simp,by simpa using hl,by simp only;omega,by simp⟩,by simp only;omega,by simp only;omega,fun _=>?_⟩
 simp only [List.length_cons,List.length_nil,seenOf_len]
 rcases h with ⟨h,rfl,rfl⟩ | ⟨h,h2,rfl⟩ | ⟨h,h2,h3⟩ | ⟨h,h2,h3,rfl⟩
 ·exact⟨by simp,by omega,by omega,by omega,by omega,by omega⟩
 ·rw [h2];exact⟨by omega,by simp,by omega,by simp,by simp,by omega⟩
 ·rw [h2];exact⟨by omega,by omega,fun _=>⟨rfl,h3⟩,by omega,by omega,by omega⟩
 ·rw [h2];exact⟨by omega,by omega,by omega,by omega,by omega,by simp [h3]⟩
theorem com_att {M M':ComS}{ans:TAns}{c:AT}(h:CmR W me t M)(he:ans.err=0)(hm:ComOk M)(e:comTell M ans=M')(hc:(M'.pat.fin=0∧∀x,CmR W me x M'→RA W me x c)∨(M'.pat.fin=2∧c.ph=.go 2 (-1))∨(M'.pat.fin=5∧c.ph=.go 5 M'.pat.by_)):AttR' W me t ans c:=by
 have hok:=comTell_ok hm ans
 rw [e] at hok
 refine Heard.att (t:=t) ?_ (.inr (.inr (.inr h.st))) he (by rw [h.inn];exact hm)
 rw [h.inn]
 show Heard W me { t with inn:=.com (comTell M ans) } c
 rw [e]
 exact com_heard h hok hc
theorem com_next {M:ComS}(h:CmR W me t M):attNext t=comNext M:=by
 unfold attNext
 rw [if_neg (by rw [h.st];decide),if_neg (by rw [h.st];decide),if_neg (by rw [h.st];decide),if_neg (by rw [h.st];decide),if_neg (by rw [h.st];decide),h.inn]
theorem att_c0 (e:a.ph=.c0)(hq:0≤a.q)(hq4:a.q≤4)(hr:a.rd.length≤1000)(hlk:lk.held=false→lk=⟨lk.version,false,0⟩)(h:RA W me t a) :
  attNext t=(⟨3,W.P.s me a,0,0,zeroLock,zeroLock⟩,true)∧AttR' W me t ⟨0,lk,false,0⟩ (if lk.held=true then waitW me a lk.owner (.go 5 lk.owner) else { a with ph:=.c1 lk.version }):=by
 unfold RA at h
 rw [e] at h
 obtain⟨fl,now,h⟩:=h
 have ew:IntKind.wrap .i64 (a.q-1)=a.q-1:=wi64 (by omega) (by omega)
 refine⟨by rw [com_next h];rfl,?_⟩
 have ok:ComOk (cm W me a a.q a.st [] 0 0 fl now false 0 0 0):=com_ok hr (.inl ⟨.inl rfl,rfl,rfl⟩)
 by_cases c:lk.held=true
 ·rw [if_pos c]
  unfold waitW
  by_cases c2:lk.owner > me
  ·rw [if_pos c2]
   have e1:comTell (cm W me a a.q a.st [] 0 0 fl now false 0 0 0) ⟨0,lk,false,0⟩=cm W me a a.q a.st [] 0 0 fl now false 0 0 0:=by
    simp [comTell,Pat.stopped,comTake,c,comHeld,Pat.waits,c2]
   refine com_att h rfl ok e1 (.inl ⟨rfl,fun x hx=>?_⟩)
   unfold RA;rw [e];exact⟨fl,now,hx⟩
  ·rw [if_neg c2]
   by_cases c3:0≤a.q-1
   ·rw [if_pos c3]
    have c4:decide (a.q-1 ≥ 0)=true:=by simpa using c3
    have e1:comTell (cm W me a a.q a.st [] 0 0 fl now false 0 0 0) ⟨0,lk,false,0⟩=cm W me a (a.q-1) a.st [] 0 0 fl now false 0 0 0:=by
     simp only [comTell,Pat.stopped,comTake,c,comHeld,Pat.waits,c2,ew,c4];simp
    refine com_att h rfl ok e1 (.inl ⟨rfl,fun x hx=>?_⟩)
    unfold RA;simp only [e];exact⟨fl,now,hx⟩
   ·rw [if_neg c3]
    have c4:decide (a.q-1 ≥ 0)=false:=by simpa using c3
    have e1:comTell (cm W me a a.q a.st [] 0 0 fl now false 0 0 0) ⟨0,lk,false,0⟩={ cm W me a (a.q-1) a.st [] 7 0 fl now false 5 lk.owner 0 with pat:=⟨me,a.q-1,5,lk.owner,0⟩ }:=by
     simp only [comTell,Pat.stopped,comTake,c,comHeld,Pat.waits,c2,ew,c4,comStop,comLeave];simp [Pat.stop]
    exact com_att h rfl ok e1 (.inr (.inr ⟨rfl,rfl⟩))
 ·rw [if_neg c]
  have hl:lk=⟨lk.version,false,0⟩:=hlk (by simpa using c)
  have e1:comTell (cm W me a a.q a.st [] 0 0 fl now false 0 0 0) ⟨0,lk,false,0⟩=cm W me a a.q a.st [] 1 0 ⟨lk.version,false,0⟩ now false 0 0 0:=by
   rw [hl]
   simp [comTell,Pat.stopped,comTake]
  exact com_att h rfl ok e1 (.inl ⟨rfl,fun x hx=>⟨now,hx⟩⟩)
theorem att_c1 (e:a.ph=.c1 V)(hr:a.rd.length≤1000)(h:RA W me t a)(d:Bool) :
  attNext t=(⟨4,W.P.s me a,0,0,⟨V,false,0⟩,⟨V,true,me⟩⟩,true)∧AttR' W me t ⟨0,zeroLock,d,0⟩ (if d=true then { a with ph:=.c2 V } else { a with ph:=.c0 }):=by
 unfold RA at h
 rw [e] at h
 obtain⟨now,h⟩:=h
 refine⟨by rw [com_next h];rfl,?_⟩
 have ok:ComOk (cm W me a a.q a.st [] 1 0 ⟨V,false,0⟩ now false 0 0 0):=com_ok hr (.inl ⟨.inr rfl,rfl,rfl⟩)
 cases d
 ·have e1:comTell (cm W me a a.q a.st [] 1 0 ⟨V,false,0⟩ now false 0 0 0) ⟨0,zeroLock,false,0⟩=cm W me a a.q a.st [] 0 0 ⟨V,false,0⟩ now false 0 0 0:=by
   simp [comTell,Pat.stopped,comTake]
  exact com_att h rfl ok e1 (.inl ⟨rfl,fun x hx=>⟨_,now,hx⟩⟩)
 ·have e1:comTell (cm W me a a.q a.st [] 1 0 ⟨V,false,0⟩ now false 0 0 0) ⟨0,zeroLock,true,0⟩=cm W me a a.q a.st [⟨V,false,0⟩] 2 0 ⟨V,false,0⟩ now false 0 0 0:=by
   simp [comTell,Pat.stopped,comTake,comMore]
  exact com_att h rfl ok e1 (.inl ⟨rfl,fun x hx=>⟨_,now,hx⟩⟩)
theorem att_c2 {T:Int}(e:a.ph=.c2 V)(hr:a.rd.length≤1000)(hT:T≤1000000000000)(h:RA W me t a) :
  attNext t=(⟨6,0,0,0,zeroLock,zeroLock⟩,true)∧AttR' W me t ⟨T,zeroLock,false,0⟩ { a with ph:=.c3 V T }:=by
 unfold RA at h
 rw [e] at h
 obtain⟨fl,now,h⟩:=h
 refine⟨by rw [com_next h];rfl,?_⟩
 have ok:ComOk (cm W me a a.q a.st [⟨V,false,0⟩] 2 0 fl now false 0 0 0):=com_ok hr (.inr (.inl ⟨.inl rfl,rfl,rfl⟩))
 have c:¬4611686018427387903≤T:=by omega
 have e1:comTell (cm W me a a.q a.st [⟨V,false,0⟩] 2 0 fl now false 0 0 0) ⟨T,zeroLock,false,0⟩=cm W me a a.q a.st [⟨V,false,0⟩] 3 0 fl T false 0 0 0:=by
  simp [comTell,Pat.stopped,comRaise,c]
 exact com_att h rfl ok e1 (.inl ⟨rfl,fun x hx=>⟨fl,hx⟩⟩)
theorem prove_rel (k:Nat):∀(i:Nat),a.rd.length-i=k→((proveN k (cm W me a a.q a.st [⟨V,false,0⟩] 4 i lk now false 0 0 0)).pat.fin=0 ∧
  ∀x,CmR W me x (proveN k (cm W me a a.q a.st [⟨V,false,0⟩] 4 i lk now false 0 0 0))→RA W me x { a with ph:=proveP (W.P.s me a) V now (a.rd.drop i) i }):=by
 induction k with
 | zero =>
  intro i hi
  have ed:a.rd.drop i=[]:=List.drop_eq_nil_of_le (by omega)
  have e1:proveN 0 (cm W me a a.q a.st [⟨V,false,0⟩] 4 i lk now false 0 0 0)=cm W me a a.q a.st [⟨V,false,0⟩] 5 0 lk now true 0 0 0:=by
   simp [proveN,comBegin,comWrite]
  rw [e1,ed]
  exact⟨rfl,fun x hx=>⟨lk,hx⟩⟩
 | succ k ih =>
  intro i hi
  have hlt:i<a.rd.length:=by omega
  have ed:a.rd.drop i=rdAt a i::a.rd.drop (i+1):=by
   rw [List.drop_eq_getElem_cons hlt]
   congr 1
   unfold rdAt
   rw [List.getD_eq_getElem?_getD,List.getElem?_eq_getElem hlt];rfl
  rw [ed]
  unfold proveP proveN
  simp only [seenOf_at hlt]
  by_cases c:(rdAt a i).1=W.P.s me a
  ·have c':((W.P.s me a:Nat):Int)=((rdAt a i).1:Int):=by rw [c]
   rw [if_pos c]
   have eo:ownV (cm W me a a.q a.st [⟨V,false,0⟩] 4 i lk now false 0 0 0) ((rdAt a i).1:Int)=some V:=by
    unfold ownV
    simp only [idxS,if_pos c']
    rfl
   rw [eo]
   simp only
   by_cases c2:V=(rdAt a i).2
   ·rw [if_pos c2,if_pos c2]
    exact ih (i+1) (by omega)
   ·rw [if_neg c2,if_neg c2]
    have e1:comStop (cm W me a a.q a.st [⟨V,false,0⟩] 4 i lk now false 0 0 0) 5 0 (-1)=cm W me a a.q a.st [⟨V,false,0⟩] 7 0 lk now false 5 (-1) 0:=by
     simp [comStop,comLeave]
    rw [e1]
    exact⟨rfl,fun x hx=>⟨a.q,lk,now,hx⟩⟩
  ·have c':¬((W.P.s me a:Nat):Int)=((rdAt a i).1:Int):=by omega
   rw [if_neg c]
   have eo:ownV (cm W me a a.q a.st [⟨V,false,0⟩] 4 i lk now false 0 0 0) ((rdAt a i).1:Int)=none:=by
    unfold ownV
    simp only [idxS,if_neg c']
    rfl
   rw [eo]
   exact⟨rfl,fun x hx=>⟨lk,hx⟩⟩
theorem att_c3 (e:a.ph=.c3 V now)(h0:0≤now)(h1:now≤1000000000000)(hr:a.rd.length≤1000)(h:RA W me t a)(d:Bool) :
  attNext t=(⟨7,0,now,now+1,zeroLock,zeroLock⟩,true)∧AttR' W me t ⟨0,zeroLock,d,0⟩ (if d=true then { a with ph:=if now=a.st then .c5 V now else proveP (W.P.s me a) V now a.rd 0 } else { a with ph:=.c2 V }):=by
 unfold RA at h
 rw [e] at h
 obtain⟨fl,h⟩:=h
 have ew:IntKind.wrap .u64 (now+1)=now+1:=wu64 (by omega) (by omega)
 refine⟨by rw [com_next h];show ((⟨7,0,now,IntKind.wrap .u64 (now+1),zeroLock,zeroLock⟩:TOp),true)=_;rw [ew],?_⟩
 have ok:ComOk (cm W me a a.q a.st [⟨V,false,0⟩] 3 0 fl now false 0 0 0):=com_ok hr (.inr (.inl ⟨.inr (.inl rfl),rfl,rfl⟩))
 cases d
 ·have e1:comTell (cm W me a a.q a.st [⟨V,false,0⟩] 3 0 fl now false 0 0 0) ⟨0,zeroLock,false,0⟩=cm W me a a.q a.st [⟨V,false,0⟩] 2 0 fl now false 0 0 0:=by
   simp [comTell,Pat.stopped,comRaise]
  exact com_att h rfl ok e1 (.inl ⟨rfl,fun x hx=>⟨fl,now,hx⟩⟩)
 ·rw [if_pos rfl]
  by_cases c:now=a.st
  ·simp only [if_pos c]
   have e1:comTell (cm W me a a.q a.st [⟨V,false,0⟩] 3 0 fl now false 0 0 0) ⟨0,zeroLock,true,0⟩=cm W me a a.q a.st [⟨V,false,0⟩] 5 0 fl now true 0 0 0:=by
    simp [comTell,Pat.stopped,comRaise,c,comBegin,comWrite]
   exact com_att h rfl ok e1 (.inl ⟨rfl,fun x hx=>⟨fl,hx⟩⟩)
  ·simp only [if_neg c]
   have e1:comTell (cm W me a a.q a.st [⟨V,false,0⟩] 3 0 fl now false 0 0 0) ⟨0,zeroLock,true,0⟩=proveN a.rd.length (cm W me a a.q a.st [⟨V,false,0⟩] 4 0 fl now false 0 0 0):=by
    have:a.rd.length=(seenOf a.rd).length-0:=by rw [seenOf_len];rfl
    rw [this]
    simp [comTell,Pat.stopped,comRaise,c,comProve]
   have hp:=prove_rel (W:=W) (me:=me) (a:=a) (V:=V) (now:=now) (lk:=fl) a.rd.length 0 rfl
   rw [List.drop_zero] at hp
   exact com_att h rfl ok e1 (.inl hp)
theorem att_c4 {i:Nat}(e:a.ph=.c4 V now i)(hq:0≤a.q)(hq4:a.q≤4)(hr:a.rd.length≤1000)(hi:i<a.rd.length)(h:RA W me t a) :
  attNext t=(⟨3,(rdAt a i).1,0,0,zeroLock,zeroLock⟩,true)∧AttR' W me t ⟨0,lk,false,0⟩ (if lk.held=true then waitW me a lk.owner (.c7 V lk.owner)
   else if lk.version≠(rdAt a i).2 then { a with ph:=.c7 V (-1) }
   else { a with ph:=proveP (W.P.s me a) V now (a.rd.drop (i+1)) (i+1) }):=by
 unfold RA at h
 rw [e] at h
 obtain⟨fl,h⟩:=h
 have ew:IntKind.wrap .i64 (a.q-1)=a.q-1:=wi64 (by omega) (by omega)
 refine⟨by
  rw [com_next h]
  show ((⟨3,((seenOf a.rd).getD i ⟨0,0⟩).stripe,0,0,zeroLock,zeroLock⟩:TOp),true)=_
  rw [seenOf_at hi],?_⟩
 have ok:ComOk (cm W me a a.q a.st [⟨V,false,0⟩] 4 i fl now false 0 0 0):=com_ok hr (.inr (.inr (.inl ⟨rfl,rfl,hi⟩)))
 by_cases c:lk.held=true
 ·rw [if_pos c]
  unfold waitW
  by_cases c2:lk.owner > me
  ·rw [if_pos c2]
   have e1:comTell (cm W me a a.q a.st [⟨V,false,0⟩] 4 i fl now false 0 0 0) ⟨0,lk,false,0⟩=cm W me a a.q a.st [⟨V,false,0⟩] 4 i fl now false 0 0 0:=by
    simp [comTell,Pat.stopped,comProved,c,comHeld,Pat.waits,c2]
   refine com_att h rfl ok e1 (.inl ⟨rfl,fun x hx=>?_⟩)
   unfold RA;rw [e];exact⟨fl,hx⟩
  ·rw [if_neg c2]
   by_cases c3:0≤a.q-1
   ·rw [if_pos c3]
    have c4:decide (a.q-1 ≥ 0)=true:=by simpa using c3
    have e1:comTell (cm W me a a.q a.st [⟨V,false,0⟩] 4 i fl now false 0 0 0) ⟨0,lk,false,0⟩=cm W me a (a.q-1) a.st [⟨V,false,0⟩] 4 i fl now false 0 0 0:=by
     simp only [comTell,Pat.stopped,comProved,c,comHeld,Pat.waits,c2,ew,c4];simp
    refine com_att h rfl ok e1 (.inl ⟨rfl,fun x hx=>?_⟩)
    unfold RA;simp only [e];exact⟨fl,hx⟩
   ·rw [if_neg c3]
    have c4:decide (a.q-1 ≥ 0)=false:=by simpa using c3
    have e1:comTell (cm W me a a.q a.st [⟨V,false,0⟩] 4 i fl now false 0 0 0) ⟨0,lk,false,0⟩=cm W me a (a.q-1) a.st [⟨V,false,0⟩] 7 0 fl now false 5 lk.owner 0:=by
     simp only [comTell,Pat.stopped,comProved,c,comHeld,Pat.waits,c2,ew,c4,comStop,comLeave];simp
    exact com_att h rfl ok e1 (.inl ⟨rfl,fun x hx=>⟨_,fl,now,hx⟩⟩)
 ·rw [if_neg c]
  by_cases c2:lk.version≠(rdAt a i).2
  ·rw [if_pos c2]
   have e1:comTell (cm W me a a.q a.st [⟨V,false,0⟩] 4 i fl now false 0 0 0) ⟨0,lk,false,0⟩=cm W me a a.q a.st [⟨V,false,0⟩] 7 0 fl now false 5 (-1) 0:=by
    have e0:comTell (cm W me a a.q a.st [⟨V,false,0⟩] 4 i fl now false 0 0 0) ⟨0,lk,false,0⟩=comProved (cm W me a a.q a.st [⟨V,false,0⟩] 4 i fl now false 0 0 0) lk:=by simp [comTell,Pat.stopped]
    rw [e0]
    unfold comProved
    simp only [seenOf_at hi]
    rw [if_neg c,if_neg c2]
    simp [comStop,comLeave]
   exact com_att h rfl ok e1 (.inl ⟨rfl,fun x hx=>⟨_,fl,now,hx⟩⟩)
  ·rw [if_neg c2]
   have c2:lk.version=(rdAt a i).2:=Decidable.byContradiction c2
   have e1:comTell (cm W me a a.q a.st [⟨V,false,0⟩] 4 i fl now false 0 0 0) ⟨0,lk,false,0⟩=proveN (a.rd.length-(i+1)) (cm W me a a.q a.st [⟨V,false,0⟩] 4 (i+1) fl now false 0 0 0):=by
    have:a.rd.length-(i+1)=(seenOf a.rd).length-(i+1):=by rw [seenOf_len]
    rw [this]
    have e0:comTell (cm W me a a.q a.st [⟨V,false,0⟩] 4 i fl now false 0 0 0) ⟨0,lk,false,0⟩=comProved (cm W me a a.q a.st [⟨V,false,0⟩] 4 i fl now false 0 0 0) lk:=by simp [comTell,Pat.stopped]
    rw [e0]
    unfold comProved
    simp only [seenOf_at hi]
    rw [if_neg c,if_pos c2]
    rfl
   exact com_att h rfl ok e1 (.inl (prove_rel _ _ rfl))
theorem att_c5 (e:a.ph=.c5 V now)(hr:a.rd.length≤1000)(h:RA W me t a) :
  attNext t=(⟨2,W.P.pl me a,0,(W.P.job me a.job).word,zeroLock,zeroLock⟩,true)∧AttR' W me t zeroAns { a with ph:=.c6 V now }:=by
 unfold RA at h
 rw [e] at h
 obtain⟨fl,h⟩:=h
 refine⟨by rw [com_next h];rfl,?_⟩
 have ok:ComOk (cm W me a a.q a.st [⟨V,false,0⟩] 5 0 fl now true 0 0 0):=com_ok hr (.inr (.inl ⟨.inr (.inr (.inl rfl)),rfl,rfl⟩))
 have e1:comTell (cm W me a a.q a.st [⟨V,false,0⟩] 5 0 fl now true 0 0 0) zeroAns=cm W me a a.q a.st [⟨V,false,0⟩] 6 0 fl now true 0 0 0:=by
  simp [comTell,Pat.stopped,zeroAns,comWrite,comGive]
 exact com_att h rfl ok e1 (.inl ⟨rfl,fun x hx=>⟨fl,hx⟩⟩)
theorem att_c6 (e:a.ph=.c6 V now)(h0:0≤now)(h1:now≤1000000000000)(hr:a.rd.length≤1000)(h:RA W me t a) :
  attNext t=(⟨5,W.P.s me a,0,0,zeroLock,⟨now+1,false,0⟩⟩,true)∧AttR' W me t zeroAns { a with ph:=.go 2 (-1) }:=by
 unfold RA at h
 rw [e] at h
 obtain⟨fl,h⟩:=h
 have ew:IntKind.wrap .u64 (now+1)=now+1:=wu64 (by omega) (by omega)
 refine⟨by rw [com_next h];show ((⟨5,W.P.s me a,0,0,zeroLock,⟨IntKind.wrap .u64 (now+1),false,0⟩⟩:TOp),true)=_;rw [ew],?_⟩
 have ok:ComOk (cm W me a a.q a.st [⟨V,false,0⟩] 6 0 fl now true 0 0 0):=com_ok hr (.inr (.inl ⟨.inr (.inr (.inr rfl)),rfl,rfl⟩))
 have e1:comTell (cm W me a a.q a.st [⟨V,false,0⟩] 6 0 fl now true 0 0 0) zeroAns={ cm W me a a.q a.st [⟨V,false,0⟩] 6 0 fl now true 0 0 0 with pos:=1,pat:=⟨me,a.q,2,-1,0⟩ }:=by
  simp [comTell,Pat.stopped,zeroAns,comGive,Pat.stop]
 exact com_att h rfl ok e1 (.inr (.inl ⟨rfl,rfl⟩))
theorem att_c7 (e:a.ph=.c7 V b)(hr:a.rd.length≤1000)(h:RA W me t a) :
  attNext t=(⟨5,W.P.s me a,0,0,zeroLock,⟨V,false,0⟩⟩,true)∧AttR' W me t zeroAns { a with ph:=.go 5 b }:=by
 unfold RA at h
 rw [e] at h
 obtain⟨q,fl,now,h⟩:=h
 refine⟨by rw [com_next h];rfl,?_⟩
 have ok:ComOk (cm W me a q a.st [⟨V,false,0⟩] 7 0 fl now false 5 b 0):=com_ok hr (.inr (.inr (.inr ⟨rfl,rfl,by decide,rfl⟩)))
 have e1:comTell (cm W me a q a.st [⟨V,false,0⟩] 7 0 fl now false 5 b 0) zeroAns={ cm W me a q a.st [⟨V,false,0⟩] 7 0 fl now false 5 b 0 with pos:=1,pat:=⟨me,q,5,b,0⟩ }:=by
  simp [comTell,Pat.stopped,zeroAns,comLeave,Pat.stop]
 exact com_att h rfl ok e1 (.inr (.inr ⟨rfl,rfl⟩))
end
section
variable {W:Wo}{me:Nat}{m:AM}{S:Nat→AT}{a a':AT}{x:ThrS}{t:AttS}{draw pick:Int}
theorem jobs_at {i j:Nat}(h:j<W.P.n i):((W.jobs i).map progJ)[j]? = some (progJ (W.P.job i j)):=by
 have h:j<(W.jobs i).length:=h
 unfold Pr.job
 rw [List.getElem?_map,List.getD_eq_getElem?_getD,List.getElem?_eq_getElem h];rfl
theorem progJ_len (j:Job):(progJ j).length≤1000:=by cases j <;> simp [progJ,takesP,putsP]
theorem RT.jobsOk (h:RT W me x a)(hj:a.job≤W.P.n me):JobsOk x :=
 ⟨by rw [h.job];omega,by rw [h.job,h.jobs,List.length_map];have:a.job≤(W.jobs me).length:=hj;omega,by
  rw [h.jobs]
  intro p hp
  obtain⟨j,_,rfl⟩:=List.mem_map.1 hp
  exact progJ_len j⟩
theorem Lo_job (h:Lo W.P m S me a):a.job≤W.P.n me:=by
 cases e:a.ph <;> simp only [Lo,e,Run] at h <;> omega
theorem again_rt (hW:WoOk W){job:Nat}(h1:x.me=me)(h2:x.s=W.s)(h3:x.jobs=(W.jobs me).map progJ)(h4:x.job=job)(h5:x.res.length=job)(hj:job≤W.P.n me) :
  RT W me (thrAgain x) (if job=W.P.n me then { fresh job with ph:=.fin } else fresh job)∧(thrAgain x).past=x.past:=by
 unfold thrAgain
 have hjn:x.job.toNat=job:=by rw [h4];rfl
 by_cases c:job=W.P.n me
 ·have e:x.jobs[x.job.toNat]? = none:=by rw [h3,hjn,c];exact List.getElem?_eq_none (by rw [List.length_map];exact Nat.le_refl _)
  rw [e,if_pos c]
  exact⟨⟨h1,h2,h3,h4,h5,fun t g=>(by cases g),fun p hp=>(by cases hp),fun g=>(by cases g),rfl⟩,rfl⟩
 ·have e:x.jobs[x.job.toNat]? = some (progJ (W.P.job me job)):=by rw [h3,hjn];exact jobs_at (by omega)
  rw [e,if_neg c]
  refine⟨⟨h1,h2,h3,h4,h5,fun t g=>?_,fun p hp=>(by cases hp),fun _=>rfl,rfl,_,rfl,attNew_of hW _ h2 h1⟩,rfl⟩
  cases g;exact Nat.zero_le _
theorem pauseOf_le {conf:Int}(d0:0≤draw):0≤pauseOf conf draw∧pauseOf conf draw≤8:=by
 have:=mostN_le (fewer conf).toNat
 unfold pauseOf
 have h1:=Int.tmod_nonneg (mostN (fewer conf).toNat+1) d0
 have h2:=Int.tmod_lt_of_pos draw (show 0<mostN (fewer conf).toNat+1 by omega)
 omega
theorem pause_rt (hW:WoOk W)(h1:x.me=me)(h2:x.s=W.s)(h3:x.jobs=(W.jobs me).map progJ)(h4:x.job=a.job)(h5:x.res.length=a.job)(hrd:∀t,x.now=some t→t.rd.length≤1000)(hrs:∀p∈a.rd,(p.1:Int)<W.s.stripes)(hj:a.job<W.P.n me) :
  RT W me (thrPause x draw) (pausing a (pauseOf x.conf draw))∧(thrPause x draw).past=x.past:=by
 unfold thrPause pausing
 by_cases c:pauseOf x.conf draw=0
 ·rw [if_pos c,if_pos c]
  have:=again_rt (x:={ x with pauses:=0,state:=3 }) hW h1 h2 h3 h4 h5 (by omega)
  rw [if_neg (by omega)] at this
  exact this
 ·rw [if_neg c,if_neg c]
  exact⟨⟨h1,h2,h3,h4,h5,hrd,hrs,fun g=>(by cases g),rfl,rfl⟩,rfl⟩
theorem RPh_of (h1:x.state=1)(h2:x.now=some t)(h:RA W me t a):RPh W me x a:=by
 unfold RPh
 cases e:a.ph <;> first | exact⟨h1,t,h2,h⟩ | (exfalso;unfold RA at h;rw [e] at h;exact h)
structure Picked (W:Wo)(me:Nat)(m:AM)(a:AT)(M:MemS)(x:ThrS)(draw pick:Int):Prop where
 did:(thrNext x).2=true
 hear:x.past≤1000000→HearOk x (memDo M (thrNext x).1).2
 rel0:relOf W.P me a=none→(thrNext x).1.kind≠5
 rel1:∀s v,relOf W.P me a=some (s,v)→(thrNext x).1.kind=5∧(thrNext x).1.place=(s:Int)∧(thrNext x).1.lock.version=v
 is:∃p,0≤p∧p≤8∧RM W (memDo M (thrNext x).1).1 (stepT W.P me m a p).1∧RT W me (thrTell x (memDo M (thrNext x).1).2 draw pick) (stepT W.P me m a p).2
 past:(thrTell x (memDo M (thrNext x).1).2 draw pick).past≤x.past+1
theorem res_few (hW:WoOk W)(h:RT W me x a)(hj:a.job≤W.P.n me):x.res.length≤1000000∧x.jobs.length≤1000000:=by
 have h1:=h.res
 have h2:=hW.few me
 have hj:a.job≤(W.jobs me).length:=hj
 rw [h.jobs,List.length_map]
 omega
theorem run_picked {M:MemS}{o:TOp}{ans:TAns}{m':AM}(hW:WoOk W)(hx:RT W me x a)(hj:a.job≤W.P.n me)(s1:x.state=1)(hn:x.now=some t)
  (hA:attNext t=(o,true)∧AttR' W me t ans a') (hM:(memStep M o).2=ans∧RM W (memStep M o).1 m') (hs:∀p,stepT W.P me m a p=(m',a')) (hjb:a'.job=a.job) (hal:alm a'.ph=true→alm a.ph=true) (hal2:a'.al=a.al)
  (hrs:∀p∈a'.rd,(p.1:Int)<W.s.stripes) (r0:relOf W.P me a=none→o.kind≠5) (r1:∀s v,relOf W.P me a=some (s,v)→o.kind=5∧o.place=(s:Int)∧o.lock.version=v):Picked W me m a M x draw pick:=by
 obtain⟨h1,h2⟩:=hA
 have en:thrNext x=(o,true):=by unfold thrNext;rw [if_pos s1];simp only [hn];exact h1
 have ea:(memDo M o).2=ans:=by rw [memDo_an];exact hM.1
 have et:thrTell x ans draw pick={ x with now:=some (attTell t ans),born:=if (attTell t ans).begun && !t.begun then pick else x.born }:=by
  unfold thrTell;rw [if_pos s1];simp only [hn];unfold thrHeard;rw [if_neg (fun g=>h2.st g.1)]
 have hf:=res_few hW hx hj
 refine⟨by rw [en],fun hp=>?_,by rw [en];exact r0,by rw [en];exact r1,⟨0,by decide,by decide,?_,?_⟩,?_⟩
 ·rw [en];simp only;rw [ea]
  exact⟨hx.jobsOk hj,hf.2,hp,hf.1,fun _=>⟨t,hn,h2.tell,fun g=>absurd g h2.st⟩⟩
 ·rw [en,hs];exact memDo_rm hM.2
 ·rw [en,hs];simp only;rw [ea,et]
  exact⟨hx.me,hx.s,hx.jobs,by rw [hjb];exact hx.job,by rw [hjb];exact hx.res,fun t' g=>(by cases g;exact h2.rd),hrs,fun g=>by rw [hal2];exact hx.al (hal g),RPh_of s1 rfl h2.ra⟩
 ·rw [en];simp only;rw [ea,et];simp only;omega
theorem go_picked {M:MemS}{e bb:Int}(hW:WoOk W)(hme:me<3)(hM:RM W M m)(hx:RT W me x a)(hj:a.job<W.P.n me)(d0:0≤draw)(hp:a.ph=.go e bb)(he:e=2∨e=5∨e=3):Picked W me m a M x draw pick:=by
 have hph:=hx.ph
 unfold RPh at hph
 rw [hp] at hph
 obtain⟨s1,t,hn,hA⟩:=hph
 unfold RA at hA
 rw [hp] at hA
 have hA:GoR W me t a e bb:=hA
 have n0:¬t.state=0:=by rw [hA.st];decide
 have n1:¬t.state=1:=by rw [hA.st];decide
 have n2:¬t.state=2:=by rw [hA.st];decide
 have n8:¬t.state=8:=by rw [hA.st];decide
 have hf:=res_few hW hx (by omega)
 have h1:attNext t=(⟨9,me,0,0,zeroLock,zeroLock⟩,true):=by unfold attNext;rw [if_neg n0,if_neg n1,if_neg n2,if_pos hA.st,hA.g.who]
 have hok:∀(a:TAns),attTell t a={ t with state:=8 }:=fun a=>by
  unfold attTell;rw [if_neg n8,if_neg n0,if_neg n1,if_neg n2,if_pos hA.st]
 obtain⟨m1,m2⟩:=mem_mark (x:=0) hme hM
 have en:thrNext x=(⟨9,me,0,0,zeroLock,zeroLock⟩,true):=by unfold thrNext;rw [if_pos s1];simp only [hn];exact h1
 have ea:(memDo M ⟨9,me,0,0,zeroLock,zeroLock⟩).2=zeroAns:=by rw [memDo_an];exact m1
 have hfin:t.fin≠0:=by rw [hA.fin];omega
 have hg:GoneOk { t with state:=8 }:=⟨rfl,hA.g.known,hA.g.cells,hA.g.frees,fun g=>hA.items (hA.fin.symm.trans g)⟩
 have hjob:=hx.jobsOk (by omega)
 have hlen:(x.jobs.length:Int)=W.P.n me:=by rw [hx.jobs,List.length_map]
 have hxj:=hx.job
 have hear:x.past≤1000000→HearOk x zeroAns:=fun hpast=>⟨hjob,hf.2,hpast,hf.1,fun _=>⟨t,hn,⟨rfl,fun g=>absurd g n2,fun g1 g2 g3 g4 g5=>absurd hA.st g4⟩,fun _=>by
  rw [hok];exact⟨hg,by omega⟩⟩⟩
 have et:thrTell x zeroAns draw pick=thrEnded { x with now:=some { t with state:=8 },born:=if t.begun && !t.begun then pick else x.born } { t with state:=8 } draw:=by
  unfold thrTell;rw [if_pos s1];simp only [hn,hok];unfold thrHeard;rw [if_pos ⟨rfl,hfin⟩]
 generalize (if t.begun && !t.begun then pick else x.born)=born at et
 have hs:=hx.s
 have hthr:x.s.threads=3:=by rw [hs];exact hW.thr
 have hrel:relOf W.P me a=none:=by unfold relOf;rw [hp]
 have hst:∀p,stepT W.P me m a p=({ m with e:=upd m.e me 0 },ended W.P me a e bb p):=fun p=>by unfold stepT;rw [hp]
 have fin:∀p,0≤p→p≤8→RT W me (thrEnded { x with now:=some { t with state:=8 },born:=born } { t with state:=8 } draw) (ended W.P me a e bb p)→(thrEnded { x with now:=some { t with state:=8 },born:=born } { t with state:=8 } draw).past≤x.past+1→Picked W me m a M x draw pick:=fun p p0 p8 g1 g2=>by
  refine⟨by rw [en],fun hpast=>by rw [en];simp only;rw [ea];exact hear hpast,fun _=>(by rw [en];simp),fun s v g=>(by rw [hrel] at g;cases g),⟨p,p0,p8,by rw [en,hst];exact memDo_rm m2,?_⟩,?_⟩
  ·rw [en,hst];simp only;rw [ea,et];exact g1
  ·rw [en];simp only;rw [ea,et];exact g2
 have hfe:({ t with state:=8 }:AttS).fin=e:=hA.fin
 have hrd:∀t':AttS,some ({ t with state:=8 }:AttS)=some t'→t'.rd.length≤1000:=fun t' g=>by cases g;exact hA.rd
 rcases he with he | he | he
 ·have ee:thrEnded { x with now:=some { t with state:=8 },born:=born } { t with state:=8 } draw=thrFollow { x with now:=some { t with state:=8 },born:=born,past:=x.past+1,tries:=IntKind.wrap .i64 (x.tries+1),res:=x.res++[⟨t.fin,t.err,textOf { t with state:=8 },t.stamp⟩] }:=by
   unfold thrEnded
   rw [if_neg (by rw [hfe];omega),if_neg (by rw [hfe];omega)]
  have hag:=again_rt (x:={ x with now:=some { t with state:=8 },born:=born,past:=x.past+1,tries:=0,conf:=0,job:=x.job+1,res:=x.res++[⟨t.fin,t.err,textOf { t with state:=8 },t.stamp⟩] }) (me:=me) (job:=a.job+1) hW hx.me hx.s hx.jobs (by simp only;omega) (by simp only [List.length_append,List.length_singleton,hx.res]) (by omega)
  have es:∀p,ended W.P me a e bb p=if a.job+1=W.P.n me then { fresh (a.job+1) with ph:=.fin } else fresh (a.job+1):=fun p=>by unfold ended;rw [if_neg (by omega),if_neg (by omega)]
  refine fin 0 (by decide) (by decide) ?_ ?_
  ·rw [ee,es];exact hag.1
  ·rw [ee]
   have e2:=hag.2
   unfold thrFollow
   simp only at e2 ⊢
   rw [e2]
   exact Nat.le_refl _
 ·by_cases c2:0≤bb∧bb<3
  ·have ee:thrEnded { x with now:=some { t with state:=8 },born:=born } { t with state:=8 } draw={ x with now:=some { t with state:=8 },born:=born,past:=x.past+1,tries:=IntKind.wrap .i64 (x.tries+1),conf:=IntKind.wrap .i64 (x.conf+1),state:=2,by_:=bb,yld:=false }:=by
    unfold thrEnded
    simp only
    rw [if_pos (by rw [hA.fin];exact he),if_pos (by rw [hA.by_,hthr];exact c2),hA.by_]
   have es:∀p,ended W.P me a e bb p={ a with ph:=.yld bb 0 false }:=fun p=>by unfold ended;rw [if_pos he,if_pos c2]
   refine fin 0 (by decide) (by decide) ?_ ?_
   ·rw [ee,es]
    exact⟨hx.me,hx.s,hx.jobs,hx.job,hx.res,hrd,hx.rds,fun g=>(by cases g),rfl,rfl,rfl,fun g=>(by cases g)⟩
   ·rw [ee];exact Nat.le_refl _
  ·have ee:thrEnded { x with now:=some { t with state:=8 },born:=born } { t with state:=8 } draw=thrPause { x with now:=some { t with state:=8 },born:=born,past:=x.past+1,tries:=IntKind.wrap .i64 (x.tries+1),conf:=IntKind.wrap .i64 (x.conf+1) } draw:=by
    unfold thrEnded
    simp only
    rw [if_pos (by rw [hA.fin];exact he),if_neg (by rw [hA.by_,hthr];exact c2)]
   have hpr:=pause_rt (draw:=draw) (x:={ x with now:=some { t with state:=8 },born:=born,past:=x.past+1,tries:=IntKind.wrap .i64 (x.tries+1),conf:=IntKind.wrap .i64 (x.conf+1) }) (me:=me) (a:=a) hW hx.me hx.s hx.jobs hx.job hx.res hrd hx.rds hj
   have hpl:=pauseOf_le (draw:=draw) (conf:=IntKind.wrap .i64 (x.conf+1)) d0
   have es:∀p,ended W.P me a e bb p=pausing a p:=fun p=>by unfold ended;rw [if_pos he,if_neg c2]
   refine fin _ hpl.1 hpl.2 ?_ ?_
   ·rw [ee,es];exact hpr.1
   ·rw [ee,hpr.2];exact Nat.le_refl _
 ·have hal:x.alarm=a.al:=hx.al (by rw [hp];exact decide_eq_true he)
  obtain⟨hb1,hb2⟩:=hA.bl he
  have es:∀p,ended W.P me a e bb p=if a.al then fresh a.job else { a with ph:=.wait }:=fun p=>by unfold ended;rw [if_neg (by omega),if_pos he]
  by_cases c:a.al=true
  ·have ee:thrEnded { x with now:=some { t with state:=8 },born:=born } { t with state:=8 } draw=thrAgain { x with now:=some { t with state:=8 },born:=born,past:=x.past+1,tries:=IntKind.wrap .i64 (x.tries+1) }:=by
    unfold thrEnded
    simp only
    rw [if_neg (by rw [hA.fin];omega),if_pos (by rw [hA.fin];exact he),if_pos (by rw [hal];exact c)]
   have hag:=again_rt (x:={ x with now:=some { t with state:=8 },born:=born,past:=x.past+1,tries:=IntKind.wrap .i64 (x.tries+1) }) (me:=me) (job:=a.job) hW hx.me hx.s hx.jobs hx.job hx.res (by omega)
   rw [if_neg (by omega)] at hag
   refine fin 0 (by decide) (by decide) ?_ ?_
   ·rw [ee,es,if_pos c];exact hag.1
   ·rw [ee,hag.2];exact Nat.le_refl _
  ·have ee:thrEnded { x with now:=some { t with state:=8 },born:=born } { t with state:=8 } draw={ x with now:=some { t with state:=8 },born:=born,past:=x.past+1,tries:=IntKind.wrap .i64 (x.tries+1),state:=4 }:=by
    unfold thrEnded
    simp only
    rw [if_neg (by rw [hA.fin];omega),if_pos (by rw [hA.fin];exact he),if_neg (by rw [hal];exact c)]
   refine fin 0 (by decide) (by decide) ?_ ?_
   ·rw [ee,es,if_neg c]
    exact⟨hx.me,hx.s,hx.jobs,hx.job,hx.res,hrd,hx.rds,fun g=>(by cases g),rfl,_,rfl,hb2⟩
   ·rw [ee];exact Nat.le_refl _
theorem yld_picked {M:MemS}{bb since:Int}{y:Bool}(hW:WoOk W)(hM:RM W M m)(hx:RT W me x a)(hj:a.job<W.P.n me)(d0:0≤draw)(hp:a.ph=.yld bb since y)(hb:0≤bb∧bb<3):Picked W me m a M x draw pick:=by
 have hph:=hx.ph
 unfold RPh at hph
 rw [hp] at hph
 obtain⟨s2,b1,b2,b3⟩:=hph
 have n1:¬x.state=1:=by rw [s2];decide
 have hf:=res_few hW hx (by omega)
 have hbn:((bb.toNat:Nat):Int)=bb:=by omega
 have hm:=mem_epoch (i:=bb.toNat) (by omega) hM
 rw [hbn] at hm
 have en:thrNext x=(⟨8,bb,0,0,zeroLock,zeroLock⟩,true):=by unfold thrNext;rw [if_neg n1,if_pos s2,b1]
 have ea:(memDo M ⟨8,bb,0,0,zeroLock,zeroLock⟩).2=⟨m.e bb.toNat,zeroLock,false,0⟩:=by rw [memDo_an];exact congrArg Prod.snd hm
 have em:RM W (memDo M ⟨8,bb,0,0,zeroLock,zeroLock⟩).1 m:=memDo_rm (by have:=congrArg Prod.fst hm;exact this ▸ hM)
 have hear:x.past≤1000000→HearOk x ⟨m.e bb.toNat,zeroLock,false,0⟩:=fun hpast=>⟨hx.jobsOk (by omega),hf.2,hpast,hf.1,fun g=>absurd g n1⟩
 have et:thrTell x ⟨m.e bb.toNat,zeroLock,false,0⟩ draw pick=thrYield x ⟨m.e bb.toNat,zeroLock,false,0⟩ draw:=by unfold thrTell;rw [if_neg n1,if_pos s2]
 have hrel:relOf W.P me a=none:=by unfold relOf;rw [hp]
 have hst:∀p,stepT W.P me m a p=(m,if m.e bb.toNat≠0∧(y=false∨m.e bb.toNat=since) then { a with ph:=.yld bb (m.e bb.toNat) true } else pausing a p):=fun p=>by unfold stepT;rw [hp]
 have fin:∀p,0≤p→p≤8→RT W me (thrYield x ⟨m.e bb.toNat,zeroLock,false,0⟩ draw) (if m.e bb.toNat≠0∧(y=false∨m.e bb.toNat=since) then { a with ph:=.yld bb (m.e bb.toNat) true } else pausing a p)→(thrYield x ⟨m.e bb.toNat,zeroLock,false,0⟩ draw).past≤x.past+1→Picked W me m a M x draw pick:=fun p p0 p8 g1 g2=>by
  refine⟨by rw [en],fun hpast=>by rw [en];simp only;rw [ea];exact hear hpast,fun _=>(by rw [en];simp),fun s v g=>(by rw [hrel] at g;cases g),⟨p,p0,p8,by rw [en,hst];exact em,?_⟩,?_⟩
  ·rw [en,hst];simp only;rw [ea,et];exact g1
  ·rw [en];simp only;rw [ea,et];exact g2
 by_cases c:m.e bb.toNat≠0∧(y=false∨m.e bb.toNat=since)
 ·have ey:thrYield x ⟨m.e bb.toNat,zeroLock,false,0⟩ draw={ x with yld:=true,since:=m.e bb.toNat }:=by
   unfold thrYield
   rw [if_pos]
   refine⟨rfl,c.1,?_⟩
   rcases c.2 with g | g
   ·exact .inl (by rw [b2];exact g)
   ·cases hy:y
    ·exact .inl (by rw [b2,hy])
    ·exact .inr (by rw [b3 hy];exact g)
  refine fin 0 (by decide) (by decide) ?_ ?_
  ·rw [ey,if_pos c]
   exact⟨hx.me,hx.s,hx.jobs,hx.job,hx.res,hx.rd,hx.rds,fun g=>(by cases g),s2,b1,rfl,fun _=>rfl⟩
  ·rw [ey];exact Nat.le_succ _
 ·have ey:thrYield x ⟨m.e bb.toNat,zeroLock,false,0⟩ draw=thrPause x draw:=by
   unfold thrYield
   rw [if_neg]
   rintro⟨_,g1,g2⟩
   refine c ⟨g1,?_⟩
   cases hy:y
   ·exact .inl rfl
   ·rcases g2 with g | g
    ·rw [b2,hy] at g;cases g
    ·exact .inr (by rw [←b3 hy];exact g)
  have hpr:=pause_rt (draw:=draw) (x:=x) (me:=me) (a:=a) hW hx.me hx.s hx.jobs hx.job hx.res hx.rd hx.rds hj
  have hpl:=pauseOf_le (draw:=draw) (conf:=x.conf) d0
  refine fin _ hpl.1 hpl.2 ?_ ?_
  ·rw [ey,if_neg c];exact hpr.1
  ·rw [ey,hpr.2];exact Nat.le_succ _
structure Idle (W:Wo)(me:Nat)(m:AM)(a:AT)(x:ThrS):Prop where
 did:(thrNext x).2=false
 pauses:x.state=3→1≤x.pauses∧x.pauses≤100
 rel:relOf W.P me a=none
 is:(stepT W.P me m a 0).1=m∧RT W me (thrRest x) (stepT W.P me m a 0).2
 past:(thrRest x).past=x.past
theorem Fet_rd {m:AM}(h:Fet W.P m S me a):a.rd.length≤1:=by
 obtain⟨h1,h2,h3,h4,h5⟩:=h
 cases e:a.sec with
 | false=>rw [h3 e];exact Nat.zero_le _
 | true=>obtain⟨v,g,_⟩:=h4 e;rw [g];exact Nat.le_refl _
theorem rdAt_in {i:Nat}(hx:RT W me x a)(h:i<a.rd.length):((rdAt a i).1:Int)<W.s.stripes:=by
 refine hx.rds _ ?_
 unfold rdAt
 rw [List.getD_eq_getElem?_getD,List.getElem?_eq_getElem h]
 exact List.getElem_mem h
theorem proveP_al {s:Nat}{V now:Int}:∀{l:List (Nat×Int)}{i:Nat},alm (proveP s V now l i)=false
 | [],_=>rfl
 | x::l,i=>by
  unfold proveP
  split
  ·split
   ·exact proveP_al
   ·rfl
  ·rfl
theorem step_rel {M:MemS}(hW:WoOk W)(hme:me<3)(h:Inv W.P m S)(hM:RM W M m)(hx:RT W me x (S me))(d0:0≤draw)(hT:m.T≤100000000) :
  x.state≠5∧(x.state=1→∃t,x.now=some t∧(t.state≠0→t.state≠1→t.state≠2→t.state≠7→t.state≠8→t.inn.ok))∧JobsOk x∧(Idle W me m (S me) x∨Picked W me m (S me) M x draw pick):=by
 have hla:=h.lo me hme
 have hj:=Lo_job hla
 have hjk:=hx.jobsOk hj
 have free:∀s,(m.lk s).held=false→m.lk s=⟨(m.lk s).version,false,0⟩:=fun s c=>free_lk h (by simp [c])
 have mf:∀{o:TOp} {ans:TAns},memStep M o=(M,ans)→(memStep M o).2=ans∧RM W (memStep M o).1 m:=fun e=>by rw [e];exact⟨rfl,hM⟩
 have hs:=hW.sIn me (S me)
 have hpl:=hW.pl me (S me)
 have main:∀{o:TOp} {ans:TAns} {a':AT} {m':AM},(x.state=1∧∃t,x.now=some t∧attNext t=(o,true)∧AttR' W me t ans a')→((memStep M o).2=ans∧RM W (memStep M o).1 m')→(∀p,stepT W.P me m (S me) p=(m',a'))→a'.job=(S me).job →
   (alm a'.ph=true→alm (S me).ph=true)→a'.al=(S me).al→(∀p∈a'.rd,(p.1:Int)<W.s.stripes)→(relOf W.P me (S me)=none→o.kind≠5)→(∀s v,relOf W.P me (S me)=some (s,v)→o.kind=5∧o.place=(s:Int)∧o.lock.version=v) →
   x.state≠5∧(x.state=1→∃t,x.now=some t∧(t.state≠0→t.state≠1→t.state≠2→t.state≠7→t.state≠8→t.inn.ok))∧JobsOk x∧(Idle W me m (S me) x∨Picked W me m (S me) M x draw pick):=by
  rintro o ans a' m' ⟨s1,t,hn,hA⟩ hM' hs hjb hal hal2 hrs r0 r1
  exact⟨by rw [s1];decide,fun _=>⟨t,hn,hA.2.ok⟩,hjk,.inr (run_picked hW hx hj s1 hn hA hM' hs hjb hal hal2 hrs r0 r1)⟩
 have hph:=hx.ph
 have hrds:=hx.rds
 have nowait:∀(o:Int) (stop:Ph),(alm stop=true→alm (S me).ph=true)→(waitW me (S me) o stop).job=(S me).job∧(alm (waitW me (S me) o stop).ph=true→alm (S me).ph=true)∧(waitW me (S me) o stop).al=(S me).al∧(waitW me (S me) o stop).rd=(S me).rd:=fun o stop hstop=>by
  unfold waitW;split
  ·exact⟨rfl,id,rfl,rfl⟩
  ·split
   ·exact⟨rfl,id,rfl,rfl⟩
   ·exact⟨rfl,hstop,rfl,rfl⟩
 cases hp:(S me).ph <;> unfold RPh at hph <;> rw [hp] at hph
 case coming =>
  obtain⟨s1,t,hn2,hA⟩:=hph
  exact main ⟨s1,t,hn2,att_coming hp hA⟩ (mem_mark hme hM) (fun p=>by unfold stepT;rw [hp]) rfl (fun _=>by rw [hp];rfl) rfl hrds (fun _=>by simp) (fun s v g=>by unfold relOf at g;rw [hp] at g;cases g)
 case asking =>
  obtain⟨s1,t,hn2,hA⟩:=hph
  exact main ⟨s1,t,hn2,att_asking hp hA⟩ (mf (mem_clock hM)) (fun p=>by unfold stepT;rw [hp]) rfl (fun _=>by rw [hp];rfl) rfl hrds (fun _=>by simp) (fun s v g=>by unfold relOf at g;rw [hp] at g;cases g)
 case marking =>
  obtain⟨s1,t,hn2,hA⟩:=hph
  simp only [Lo,hp] at hla
  obtain⟨h1,h2,h3,h4,h5,h6,h7⟩:=hla
  exact main ⟨s1,t,hn2,att_marking hW hp h3 (by omega) h5 h6 hA⟩ (mem_mark hme hM) (fun p=>by unfold stepT;rw [hp]) rfl (fun _=>by rw [hp];rfl) rfl hrds (fun _=>by simp) (fun s v g=>by unfold relOf at g;rw [hp] at g;cases g)
 case f0 =>
  obtain⟨s1,t,hn2,hA⟩:=hph
  simp only [Lo,hp] at hla
  obtain⟨⟨h1,h2,h3,h4,h5,h6⟩,h7⟩:=hla
  have hrl:=Fet_rd h7
  have hF:∀l:TLock,(found W.P me (S me) l).job=(S me).job∧(found W.P me (S me) l).al=(S me).al∧(found W.P me (S me) l).rd=(S me).rd:=fun l=>by
   unfold found waitW;split
   ·split
    ·exact⟨rfl,rfl,rfl⟩
    ·split <;> exact⟨rfl,rfl,rfl⟩
   ·split <;> exact⟨rfl,rfl,rfl⟩
  exact main ⟨s1,t,hn2,att_f0 hW hp h5 h6 (by omega) (free _) hA⟩ (mf (mem_lock hM hs.2)) (fun p=>by unfold stepT;rw [hp]) (hF _).1 (fun _=>by rw [hp];rfl) (hF _).2.1 (by rw [(hF _).2.2];exact hrds) (fun _=>by simp) (fun s v g=>by unfold relOf at g;rw [hp] at g;cases g)
 case f1 v =>
  obtain⟨s1,t,hn2,hA⟩:=hph
  simp only [Lo,hp] at hla
  obtain⟨h1,h7,h8⟩:=hla
  have hrl:=Fet_rd h7
  exact main ⟨s1,t,hn2,att_f1 hp (by omega) hA⟩ (mf (mem_load hW hM hpl)) (fun p=>by unfold stepT;rw [hp]) rfl (fun _=>by rw [hp];rfl) rfl hrds (fun _=>by simp) (fun s v g=>by unfold relOf at g;rw [hp] at g;cases g)
 case f2 v w =>
  obtain⟨s1,t,hn2,hA⟩:=hph
  simp only [Lo,hp] at hla
  obtain⟨⟨h1,h2,h3,h4,h5,h6⟩,h7,h8,h9,h10⟩:=hla
  have hrl:=Fet_rd h7
  have hF:∀l:TLock,(found W.P me (S me) l).job=(S me).job∧(found W.P me (S me) l).al=(S me).al∧(found W.P me (S me) l).rd=(S me).rd:=fun l=>by
   unfold found waitW;split
   ·split
    ·exact⟨rfl,rfl,rfl⟩
    ·split <;> exact⟨rfl,rfl,rfl⟩
   ·split <;> exact⟨rfl,rfl,rfl⟩
  have hG:(got W.P me (S me) v w).job=(S me).job∧(got W.P me (S me) v w).al=(S me).al∧(got W.P me (S me) v w).rd=addRd (S me).rd (W.P.s me (S me)) v:=by
   unfold got;split
   ·exact⟨rfl,rfl,rfl⟩
   ·split <;> exact⟨rfl,rfl,rfl⟩
  have hadd:∀p∈addRd (S me).rd (W.P.s me (S me)) v,(p.1:Int)<W.s.stripes:=fun p hp'=>by
   unfold addRd at hp'
   split at hp'
   ·exact hrds p hp'
   ·rcases List.mem_append.1 hp' with g | g
    ·exact hrds p g
    ·rw [List.mem_singleton.1 g];exact hs.2
  have hc:m.lk (W.P.s me (S me))=⟨v,false,0⟩→∀x∈(S me).rd,x.1=W.P.s me (S me)→x.2=v:=fun g y hy hy2=>by
   obtain⟨g1,g2,g3,g4⟩:=h7.2.1 y hy
   rw [hy2,g] at g3
   simp only at g3
   have:=h8.2.1
   simp only at this
   omega
  refine main ⟨s1,t,hn2,att_f2 hW hp h5 h6 hrl (by have:=h8.2.1;simp only at this;omega) h10 h7.1 hc (free _) hA⟩ (mf (mem_lock hM hs.2)) (fun p=>by unfold stepT;rw [hp]) ?_ (fun _=>by rw [hp];rfl) ?_ ?_ (fun _=>by simp) (fun s v g=>by unfold relOf at g;rw [hp] at g;cases g)
  ·split;exact hG.1;exact(hF _).1
  ·split;exact hG.2.1;exact(hF _).2.1
  ·split
   ·rw [hG.2.2];exact hadd
   ·rw [(hF _).2.2];exact hrds
 case x0 blk =>
  obtain⟨s1,t,hn2,hA⟩:=hph
  simp only [Lo,hp] at hla
  obtain⟨⟨h1,h2,h3,h4,h5,h6⟩,h7⟩:=hla
  have hb:(W.P.job me (S me).job).tk=true∧(S me).rd.length≤2:=by
   cases blk
   ·rw [if_neg (by decide)] at h7;exact⟨h7.1,by have:=Fet_rd h7;omega⟩
   ·rw [if_pos rfl] at h7;exact⟨h7.1.1,h7.1.2.2.1⟩
  have hF:∀T,(if (S me).rd=[] then extended W.P (S me) blk T else { S me with ph:=.x1 blk T 0 }).job=(S me).job∧(if (S me).rd=[] then extended W.P (S me) blk T else { S me with ph:=.x1 blk T 0 }).al=(S me).al∧(if (S me).rd=[] then extended W.P (S me) blk T else { S me with ph:=.x1 blk T 0 }).rd=(S me).rd:=fun T=>by
   unfold extended;split
   ·split <;> exact⟨rfl,rfl,rfl⟩
   ·exact⟨rfl,rfl,rfl⟩
  exact main ⟨s1,t,hn2,att_x0 hW hp (by omega) hb.1 hA⟩ (mf (mem_clock hM)) (fun p=>by unfold stepT;rw [hp]) (hF _).1 (fun _=>by rw [hp];rfl) (hF _).2.1 (by rw [(hF _).2.2];exact hrds) (fun _=>by simp) (fun s v g=>by unfold relOf at g;rw [hp] at g;cases g)
 case x1 blk T i =>
  obtain⟨s1,t,hn2,hA⟩:=hph
  simp only [Lo,hp] at hla
  obtain⟨⟨h1,h2,h3,h4,h5,h6⟩,h7,h8,h9,h10,h11⟩:=hla
  have hb:(W.P.job me (S me).job).tk=true∧(S me).rd.length≤2:=by
   cases blk
   ·rw [if_neg (by decide)] at h11;exact⟨h11.1,by have:=Fet_rd h11;omega⟩
   ·rw [if_pos rfl] at h11;exact⟨h11.1.1,h11.1.2.2.1⟩
  have hn:=nowait (m.lk (rdAt (S me) i).1).owner (.go 5 (m.lk (rdAt (S me) i).1).owner) (fun g=>by simp [alm] at g)
  refine main ⟨s1,t,hn2,att_x1 hW hp h7 h5 h6 (by omega) hb.1 hA⟩ (mf (mem_lock hM (rdAt_in hx h7))) (fun p=>by unfold stepT;rw [hp]) ?_ (fun _=>by rw [hp];rfl) ?_ ?_ (fun _=>by simp) (fun s v g=>by unfold relOf at g;rw [hp] at g;cases g)
  ·unfold extended;split;exact hn.1;split;rfl;split;split <;> rfl;rfl
  ·unfold extended;split;exact hn.2.2.1;split;rfl;split;split <;> rfl;rfl
  ·have:(if (m.lk (rdAt (S me) i).1).held=true then waitW me (S me) (m.lk (rdAt (S me) i).1).owner (.go 5 (m.lk (rdAt (S me) i).1).owner)
    else if (m.lk (rdAt (S me) i).1).version≠(rdAt (S me) i).2 then { S me with ph:=.go 5 (-1) }
    else if i+1=(S me).rd.length then extended W.P (S me) blk T else { S me with ph:=.x1 blk T (i+1) }).rd=(S me).rd:=by
    unfold extended;split;exact hn.2.2.2;split;rfl;split;split <;> rfl;rfl
   rw [this];exact hrds
 case c0 =>
  obtain⟨s1,t,hn2,hA⟩:=hph
  simp only [Lo,hp] at hla
  obtain⟨⟨h1,h2,h3,h4,h5,h6⟩,h7,h8⟩:=hla
  have hn:=nowait (m.lk (W.P.s me (S me))).owner (.go 5 (m.lk (W.P.s me (S me))).owner) (fun g=>by simp [alm] at g)
  refine main ⟨s1,t,hn2,att_c0 hp h5 h6 (by omega) (free _) hA⟩ (mf (mem_lock hM hs.2)) (fun p=>by unfold stepT;rw [hp]) ?_ (fun g=>?_) ?_ ?_ (fun _=>by simp) (fun s v g=>by unfold relOf at g;rw [hp] at g;cases g)
  ·split;exact hn.1;rfl
  ·split at g;exact hn.2.1 g;cases g
  ·split;exact hn.2.2.1;rfl
  ·have:(if (m.lk (W.P.s me (S me))).held=true then waitW me (S me) (m.lk (W.P.s me (S me))).owner (.go 5 (m.lk (W.P.s me (S me))).owner) else { S me with ph:=.c1 (m.lk (W.P.s me (S me))).version }).rd=(S me).rd:=by
    split;exact hn.2.2.2;rfl
   rw [this];exact hrds
 case c1 V =>
  obtain⟨s1,t,hn2,hA⟩:=hph
  simp only [Lo,hp] at hla
  obtain⟨h1,h7,h8,h9,h10⟩:=hla
  have hl:isLock ⟨V,true,me⟩=true:=by
   unfold isLock;simp;omega
  by_cases c:m.lk (W.P.s me (S me))=⟨V,false,0⟩
  ·have hA2:=att_c1 hp (by omega) hA true
   rw [if_pos rfl] at hA2
   have hm2:=mem_cas (u:=⟨V,false,0⟩) hM hs.2 hl
   rw [if_pos c,decide_eq_true c] at hm2
   exact main ⟨s1,t,hn2,hA2⟩ hm2 (fun p=>by unfold stepT;rw [hp];simp only [if_pos c]) rfl (fun g=>by cases g) rfl hrds (fun _=>by simp) (fun s v g=>by unfold relOf at g;rw [hp] at g;cases g)
  ·have hA2:=att_c1 hp (by omega) hA false
   rw [if_neg (by decide)] at hA2
   have hm2:=mem_cas (u:=⟨V,false,0⟩) hM hs.2 hl
   rw [if_neg c,decide_eq_false c] at hm2
   exact main ⟨s1,t,hn2,hA2⟩ hm2 (fun p=>by unfold stepT;rw [hp];simp only [if_neg c]) rfl (fun g=>by cases g) rfl hrds (fun _=>by simp) (fun s v g=>by unfold relOf at g;rw [hp] at g;cases g)
 case c2 V =>
  obtain⟨s1,t,hn2,hA⟩:=hph
  simp only [Lo,hp] at hla
  obtain⟨h1,h7,h8,h9,h10,h11⟩:=hla
  exact main ⟨s1,t,hn2,att_c2 hp (by omega) (by omega) hA⟩ (mf (mem_clock hM)) (fun p=>by unfold stepT;rw [hp]) rfl (fun g=>by cases g) rfl hrds (fun _=>by simp) (fun s v g=>by unfold relOf at g;rw [hp] at g;cases g)
 case c3 V now =>
  obtain⟨s1,t,hn2,hA⟩:=hph
  simp only [Lo,hp] at hla
  obtain⟨h1,h7,h8,h9,h10,h11,h12,h13⟩:=hla
  have hm2:=mem_raise (now:=now) hM (by omega) (by omega)
  by_cases c:m.T=now
  ·have hA2:=att_c3 hp (by omega) (by omega) (by omega) hA true
   rw [if_pos rfl] at hA2
   rw [if_pos c,decide_eq_true c] at hm2
   refine main ⟨s1,t,hn2,hA2⟩ hm2 (fun p=>by unfold stepT;rw [hp];simp only [if_pos c]) rfl (fun g=>?_) rfl hrds (fun _=>by simp) (fun s v g=>by unfold relOf at g;rw [hp] at g;cases g)
   simp only at g
   split at g
   ·cases g
   ·rw [proveP_al] at g;cases g
  ·have hA2:=att_c3 hp (by omega) (by omega) (by omega) hA false
   rw [if_neg (by decide)] at hA2
   rw [if_neg c,decide_eq_false c] at hm2
   exact main ⟨s1,t,hn2,hA2⟩ hm2 (fun p=>by unfold stepT;rw [hp];simp only [if_neg c]) rfl (fun g=>by cases g) rfl hrds (fun _=>by simp) (fun s v g=>by unfold relOf at g;rw [hp] at g;cases g)
 case c4 V now i =>
  obtain⟨s1,t,hn2,hA⟩:=hph
  simp only [Lo,hp] at hla
  obtain⟨⟨h1,h2,h3,h4,h5,h6⟩,h7,h8,h9,h10,h11,h12,h13,h14,h15⟩:=hla
  have hn:=nowait (m.lk (rdAt (S me) i).1).owner (.c7 V (m.lk (rdAt (S me) i).1).owner) (fun g=>by cases g)
  refine main ⟨s1,t,hn2,att_c4 hp h5 h6 (by omega) h14 hA⟩ (mf (mem_lock hM (rdAt_in hx h14))) (fun p=>by unfold stepT;rw [hp]) ?_ (fun g=>?_) ?_ ?_ (fun _=>by simp) (fun s v g=>by unfold relOf at g;rw [hp] at g;cases g)
  ·split;exact hn.1;split <;> rfl
  ·split at g
   ·exact hn.2.1 g
   ·split at g
    ·cases g
    ·simp only at g;rw [proveP_al] at g;cases g
  ·split;exact hn.2.2.1;split <;> rfl
  ·have:(if (m.lk (rdAt (S me) i).1).held=true then waitW me (S me) (m.lk (rdAt (S me) i).1).owner (.c7 V (m.lk (rdAt (S me) i).1).owner)
    else if (m.lk (rdAt (S me) i).1).version≠(rdAt (S me) i).2 then { S me with ph:=.c7 V (-1) }
    else { S me with ph:=proveP (W.P.s me (S me)) V now ((S me).rd.drop (i+1)) (i+1) }).rd=(S me).rd:=by
    split;exact hn.2.2.2;split <;> rfl
   rw [this];exact hrds
 case c5 V now =>
  obtain⟨s1,t,hn2,hA⟩:=hph
  simp only [Lo,hp] at hla
  obtain⟨h1,h7,h8⟩:=hla
  exact main ⟨s1,t,hn2,att_c5 hp (by omega) hA⟩ (mem_store hW hM hpl) (fun p=>by unfold stepT;rw [hp]) rfl (fun g=>by cases g) rfl hrds (fun _=>by simp) (fun s v g=>by unfold relOf at g;rw [hp] at g;cases g)
 case c6 V now =>
  obtain⟨s1,t,hn2,hA⟩:=hph
  simp only [Lo,hp] at hla
  obtain⟨h1,h7,h8,h9,h10,h11⟩:=hla
  have hl:isLock ⟨now+1,false,0⟩=true:=by
   unfold isLock;simp;omega
  refine main ⟨s1,t,hn2,att_c6 hp (by omega) (by omega) (by omega) hA⟩ (mem_setLock hM hs.2 hl) (fun p=>by unfold stepT;rw [hp]) rfl (fun g=>by simp [alm] at g) rfl hrds (fun g=>by unfold relOf at g;rw [hp] at g;cases g) (fun s v g=>?_)
  unfold relOf at g;rw [hp] at g;cases g;exact⟨rfl,rfl,rfl⟩
 case c7 V b =>
  obtain⟨s1,t,hn2,hA⟩:=hph
  simp only [Lo,hp] at hla
  obtain⟨h1,h7,h8,h9,h10⟩:=hla
  have hl:isLock ⟨V,false,0⟩=true:=by
   unfold isLock;simp;omega
  refine main ⟨s1,t,hn2,att_c7 hp (by omega) hA⟩ (mem_setLock hM hs.2 hl) (fun p=>by unfold stepT;rw [hp]) rfl (fun g=>by simp [alm] at g) rfl hrds (fun g=>by unfold relOf at g;rw [hp] at g;cases g) (fun s v g=>?_)
  unfold relOf at g;rw [hp] at g;cases g;exact⟨rfl,rfl,rfl⟩
 case go e bb =>
  obtain⟨s1,t,hn2,hA⟩:=hph
  unfold RA at hA
  rw [hp] at hA
  have hA2:GoR W me t (S me) e bb:=hA
  simp only [Lo,hp] at hla
  obtain⟨h1,h2,h3,h4,h5⟩:=hla
  exact⟨by rw [s1];decide,fun _=>⟨t,hn2,fun _ _ _ g _=>absurd hA2.st g⟩,hjk,.inr (go_picked hW hme hM hx h1 d0 hp (by rcases h5 with h5 | h5 | h5;exact .inl h5;exact .inr (.inl h5.1);exact .inr (.inr h5.1)))⟩
 case yld bb since y =>
  obtain⟨s2,_⟩:=hph
  simp only [Lo,hp] at hla
  obtain⟨h1,h2,h3,h4⟩:=hla
  exact⟨by rw [s2];decide,fun g=>(by rw [s2] at g;cases g),hjk,.inr (yld_picked hW hM hx h1 d0 hp (by omega))⟩
 case pause p =>
  obtain⟨s3,hpp⟩:=hph
  simp only [Lo,hp] at hla
  obtain⟨h1,h2,h3,h4⟩:=hla
  have n1:¬x.state=1:=by rw [s3];decide
  have n2:¬x.state=2:=by rw [s3];decide
  refine⟨by rw [s3];decide,fun g=>absurd g n1,hjk,.inl ⟨by unfold thrNext;rw [if_neg n1,if_neg n2],fun _=>by omega,by unfold relOf;rw [hp],?_,?_⟩⟩
  ·unfold thrRest
   rw [if_pos s3,hpp]
   unfold stepT
   rw [hp]
   by_cases c:p=1
   ·rw [if_pos c]
    have:=again_rt (x:={ x with pauses:=0 }) (me:=me) (job:=(S me).job) hW hx.me hx.s hx.jobs hx.job hx.res hj
    rw [if_neg (by omega)] at this
    simp only [if_pos c]
    exact⟨trivial,this.1⟩
   ·rw [if_neg c]
    simp only [if_neg c]
    exact⟨trivial,hx.me,hx.s,hx.jobs,hx.job,hx.res,hx.rd,hx.rds,fun g=>(by cases g),s3,rfl⟩
  ·unfold thrRest
   rw [if_pos s3]
   split
   ·exact(again_rt (x:={ x with pauses:=0 }) (me:=me) (job:=(S me).job) hW hx.me hx.s hx.jobs hx.job hx.res hj).2
   ·rfl
 case wait =>
  obtain⟨s4,_⟩:=hph
  have n1:¬x.state=1:=by rw [s4];decide
  have n2:¬x.state=2:=by rw [s4];decide
  have n3:¬x.state=3:=by rw [s4];decide
  have es:∀p,stepT W.P me m (S me) p=(m,S me):=fun p=>by unfold stepT;rw [hp]
  refine⟨by rw [s4];decide,fun g=>absurd g n1,hjk,.inl ⟨by unfold thrNext;rw [if_neg n1,if_neg n2],fun g=>absurd g n3,by unfold relOf;rw [hp],?_,?_⟩⟩
  ·rw [es];unfold thrRest;rw [if_neg n3];exact⟨rfl,hx⟩
  ·unfold thrRest;rw [if_neg n3]
 case fin =>
  have s6:x.state=6:=hph
  have n1:¬x.state=1:=by rw [s6];decide
  have n2:¬x.state=2:=by rw [s6];decide
  have n3:¬x.state=3:=by rw [s6];decide
  have es:∀p,stepT W.P me m (S me) p=(m,S me):=fun p=>by unfold stepT;rw [hp]
  refine⟨by rw [s6];decide,fun g=>absurd g n1,hjk,.inl ⟨by unfold thrNext;rw [if_neg n1,if_neg n2],fun g=>absurd g n3,by unfold relOf;rw [hp],?_,?_⟩⟩
  ·rw [es];unfold thrRest;rw [if_neg n3];exact⟨rfl,hx⟩
  ·unfold thrRest;rw [if_neg n3]
end
structure RS (W:Wo)(X:MacS)(m:AM)(S:Nat→AT):Prop where
 mem:RM W X.mem m
 len:X.thr.length=3
 thr:∀i,i<3→∃t,X.thr[i]? = some t∧RT W i t (S i)
 T:m.T≤W.s.start+X.picks
 picks:0≤X.picks
 past:∀(i:Nat) (t:ThrS),X.thr[i]? = some t→(t.past:Int)≤X.picks
section
variable {W:Wo}{me:Nat}{m:AM}{S:Nat→AT}{a:AT}{x:ThrS}{draw p:Int}{X:MacS}
theorem step_T:(stepT W.P me m a p).1.T≤m.T+1:=by
 unfold stepT
 split <;> (try split) <;> simp only [] <;> omega
theorem newsL_of {l:List (Nat×Int)}{s:Nat}{v:Int}:newsL (seenOf l) s v=news l s v:=by
 unfold newsL news seenOf
 rw [List.any_map]
 congr 1
 funext z
 simp only [Function.comp]
 congr 1
 exact decide_eq_decide.2 (by omega)
theorem alarm_rt (h:RT W me x a)(hn:alm a.ph=false):RT W me { x with alarm:=true } a :=
 ⟨h.me,h.s,h.jobs,h.job,h.res,h.rd,h.rds,fun g=>(by rw [hn] at g;cases g),by
  have:=h.ph
  unfold RPh at this ⊢
  cases e:a.ph <;> simp only [e] at this ⊢ <;> exact this⟩
theorem blk_alarm (h:RT W me x a)(hb:blocks a.ph=true):RT W me { x with alarm:=true } { a with al:=true }:=by
 refine⟨h.me,h.s,h.jobs,h.job,h.res,h.rd,h.rds,fun _=>rfl,?_⟩
 have hp:=h.ph
 unfold RPh at hp ⊢
 cases e:a.ph <;> rw [e] at hb <;> simp only [blocks,Bool.false_eq_true,decide_eq_true_eq] at hb <;> simp only [e] at hp ⊢
 ·subst hb
  obtain⟨s1,t,hn,hA⟩:=hp
  refine⟨s1,t,hn,?_⟩
  unfold RA at hA ⊢
  rw [e] at hA
  simp only [e,if_true] at hA ⊢
  exact⟨hA.g,hA.rd,hA.st,hA.inn,hA.bl⟩
 ·subst hb
  obtain⟨s1,t,hn,hA⟩:=hp
  refine⟨s1,t,hn,?_⟩
  unfold RA at hA ⊢
  rw [e] at hA
  simp only [e,if_true] at hA ⊢
  exact⟨hA.g,hA.rd,hA.st,hA.inn,hA.bl⟩
 ·obtain⟨s1,t,hn,hA⟩:=hp
  refine⟨s1,t,hn,?_⟩
  unfold RA at hA ⊢
  rw [e] at hA
  simp only [e] at hA ⊢
  exact⟨hA.g,hA.rd,hA.st,hA.fin,hA.by_,hA.items,hA.bl⟩
theorem RT.blk (h:RT W me x a)(hb:blocks a.ph=true):x.state=1∧∃t,x.now=some t∧t.rd=seenOf a.rd∧t.blocking=true∧t.state≠8:=by
 have hp:=h.ph
 unfold RPh at hp
 cases e:a.ph <;> rw [e] at hb <;> simp only [blocks,Bool.false_eq_true,decide_eq_true_eq] at hb <;> simp only [e] at hp
 ·subst hb
  obtain⟨s1,t,hn,hA⟩:=hp
  unfold RA at hA
  rw [e] at hA
  simp only [if_true] at hA
  exact⟨s1,t,hn,hA.rd,hA.bl,by rw [hA.st];decide⟩
 ·subst hb
  obtain⟨s1,t,hn,hA⟩:=hp
  unfold RA at hA
  rw [e] at hA
  simp only [if_true] at hA
  exact⟨s1,t,hn,hA.rd,hA.bl,by rw [hA.st];decide⟩
 ·obtain⟨s1,t,hn,hA⟩:=hp
  unfold RA at hA
  rw [e] at hA
  have hA:GoR W me t a _ _:=hA
  exact⟨s1,t,hn,(hA.bl hb).2,(hA.bl hb).1,by rw [hA.st];decide⟩
theorem RT.nblk (h:RT W me x a)(hb:blocks a.ph=false)(ha:alm a.ph=true):∃t,x.now=some t∧t.blocking=false:=by
 have hp:=h.ph
 unfold RPh at hp
 cases e:a.ph <;> rw [e] at hb ha <;> simp only [blocks,alm,Bool.false_eq_true,decide_eq_true_eq,decide_eq_false_iff_not] at hb ha <;> simp only [e] at hp
 all_goals (try (obtain⟨s1,t,hn,hA⟩:=hp;refine⟨t,hn,?_⟩;unfold RA at hA;rw [e] at hA))
 case coming=>have hA:t=at0 W me _:=hA;rw [hA]
 case asking=>have hA:t={ at0 W me _ with state:=1 }:=hA;rw [hA]
 case marking=>have hA:t={ at0 W me (W.P.job me a.job) with begun:=true,beg:=a.st,stamp:=a.st,state:=2 }:=hA;rw [hA]
 case f0=>obtain⟨b,lk,w,rfl⟩:=hA;rfl
 case f1=>obtain⟨b,w,rfl⟩:=hA;rfl
 case f2=>obtain⟨b,rfl⟩:=hA;rfl
 case x0 blk =>
  subst hb
  simp only [Bool.false_eq_true,if_false] at hA
  obtain⟨b,rfl⟩:=hA;rfl
 case x1 blk T i =>
  subst hb
  simp only [Bool.false_eq_true,if_false] at hA
  obtain⟨b,rfl⟩:=hA;rfl
 case go=>exact absurd ha hb
theorem wake_rt (hW:WoOk W){s:Nat}{v:Int}(h:RT W me x a)(hj:a.ph=.wait→a.job<W.P.n me):RT W me (thrWake x s v) (wakeT a s v)∧(thrWake x s v).past=x.past:=by
 unfold thrWake wakeT
 by_cases cw:a.ph=.wait
 ·have hp:=h.ph
  unfold RPh at hp
  rw [cw] at hp
  obtain⟨s4,t,hn,hr⟩:=hp
  rw [hn]
  simp only
  rw [hr,newsL_of]
  by_cases c:news a.rd s v=true
  ·rw [if_pos c,if_pos c,if_pos cw,if_pos s4]
   have:=again_rt (me:=me) (job:=a.job) hW h.me h.s h.jobs h.job h.res (by have:=hj cw;omega)
   rw [if_neg (by have:=hj cw;omega)] at this
   exact this
  ·rw [if_neg c,if_neg c];exact⟨h,rfl⟩
 ·have h4:¬x.state=4:=by
   have hp:=h.ph
   unfold RPh at hp
   cases e:a.ph <;> simp only [e] at hp <;> first | exact absurd e cw | (rw [hp.1];decide) | (rw [hp];decide)
  by_cases cb:blocks a.ph=true
  ·obtain⟨s1,t,hn,hr,hb,h8⟩:=h.blk cb
   rw [hn]
   simp only
   rw [hr,newsL_of]
   by_cases c:news a.rd s v=true
   ·rw [if_pos c,if_pos c,if_neg cw,if_pos cb,if_neg h4,if_pos ⟨s1,by rw [hb];simp [h8]⟩]
    have:=blk_alarm h cb
    rw [hn] at this
    exact⟨this,rfl⟩
   ·rw [if_neg c,if_neg c];exact⟨h,rfl⟩
  ·have cb:blocks a.ph=false:=by simpa using cb
   have ea:(if news a.rd s v=true then (if a.ph=.wait then fresh a.job else if blocks a.ph=true then { a with al:=true } else a) else a)=a:=by
    have hbb:¬blocks a.ph=true:=by rw [cb];decide
    split
    ·first | rfl | rw [if_neg cw,if_neg hbb]
    ·rfl
   rw [ea]
   cases hn:x.now with
   | none=>exact⟨h,rfl⟩
   | some t =>
    simp only
    split
    ·rename_i gn
     try rw [if_neg h4]
     split
     ·rename_i g
      by_cases ha:alm a.ph=true
      ·obtain⟨t2,hn2,hb⟩:=h.nblk cb ha
       rw [hn] at hn2
       cases hn2
       rw [hb] at g
       simp at g
      ·have:=alarm_rt h (by simpa using ha)
       rw [hn] at this
       exact⟨this,rfl⟩
     ·exact⟨h,rfl⟩
    ·exact⟨h,rfl⟩
theorem mac_rel {i:Nat}(hW:WoOk W)(hi:i<3)(h:Inv W.P m S)(hX:RS W X m S)(d0:0≤draw)(hp:X.picks<1000000) :
  ∃t,X.thr[i]? = some t∧PickOk X i t∧∃p,0≤p∧p≤8∧RS W (if (thrNext t).2=true then macTell X i t draw else macRest X i t) (stepT W.P i m (S i) p).1 (stepS W.P i S (stepT W.P i m (S i) p).2) ∧
   (if (thrNext t).2=true then macTell X i t draw else macRest X i t).picks=X.picks+1:=by
 obtain⟨t,ht,hx⟩:=hX.thr i hi
 have hT:=hX.T
 have h0:=hX.picks
 have hst:=hW.start
 have hlen:=hX.len
 obtain⟨g5,grun,gj,hcase⟩:=step_rel (draw:=draw) (pick:=X.picks+1) hW hi h hX.mem hx d0 (by omega)
 have hother:∀k u,X.thr[k]? = some u→k≠i→JobsOk u∧∀a,u.now=some a→a.rd.length≤1000:=fun k u hu hk=>by
  have hk3:k<3:=by rw [←hlen];exact(List.getElem?_eq_some_iff.1 hu).1
  obtain⟨u',hu',hr⟩:=hX.thr k hk3
  rw [hu] at hu'
  cases hu'
  exact⟨hr.jobsOk (Lo_job (h.lo k hk3)),hr.rd⟩
 have hpast:=hX.past i t ht
 have hstT:∀p,(stepT W.P i m (S i) p).1.T≤W.s.start+(X.picks+1):=fun p=>by have:=step_T (W:=W) (me:=i) (m:=m) (a:=S i) (p:=p);omega
 refine⟨t,ht,?_⟩
 rcases hcase with hI | hP
 ·refine⟨⟨ht,by omega,⟨h0,by omega⟩,g5,grun,gj,fun _=>hI.pauses,fun g=>(by rw [hI.did] at g;cases g),hother⟩,0,by decide,by decide,?_⟩
  rw [if_neg (by rw [hI.did];decide)]
  refine⟨?_,rfl⟩
  have hS':stepS W.P i S (stepT W.P i m (S i) 0).2=upd S i (stepT W.P i m (S i) 0).2:=by unfold stepS;rw [hI.rel]
  rw [hS']
  refine⟨by rw [hI.is.1];exact hX.mem,by simpa using hlen,fun k hk=>?_,hstT 0,by show 0≤X.picks+1;omega,fun k u hu=>?_⟩
  ·by_cases c:i=k
   ·subst c
    exact⟨thrRest t,List.getElem?_set_self (by omega),by rw [upd_me];exact hI.is.2⟩
   ·obtain⟨u,hu,hr⟩:=hX.thr k hk
    exact⟨u,by show (X.thr.set i (thrRest t))[k]? = some u;rw [List.getElem?_set_ne c];exact hu,by rw [upd_ot (fun g=>c g.symm)];exact hr⟩
  ·have hu:(X.thr.set i (thrRest t))[k]? = some u:=hu
   show (u.past:Int)≤X.picks+1
   by_cases c:i=k
   ·subst c
    rw [List.getElem?_set_self (by omega)] at hu
    cases hu
    rw [hI.past];omega
   ·rw [List.getElem?_set_ne c] at hu
    have:=hX.past k u hu;omega
 ·obtain⟨p,p0,p8,hM',hR'⟩:=hP.is
  refine⟨⟨ht,by omega,⟨h0,by omega⟩,g5,grun,gj,fun g=>(by rw [hP.did] at g;cases g),fun _=>hP.hear (by omega),hother⟩,p,p0,p8,?_⟩
  rw [if_pos hP.did]
  refine⟨?_,rfl⟩
  cases hrel:relOf W.P i (S i) with
  | none =>
   have hS':stepS W.P i S (stepT W.P i m (S i) p).2=upd S i (stepT W.P i m (S i) p).2:=by unfold stepS;rw [hrel]
   have hthr:(macTell X i t draw).thr=X.thr.set i (thrTell t (memDo X.mem (thrNext t).1).2 draw (X.picks+1)):=by
    unfold macTell
    simp only
    rw [if_neg (hP.rel0 hrel)]
   rw [hS']
   refine⟨hM',by rw [hthr];simpa using hlen,fun k hk=>?_,hstT p,by show 0≤X.picks+1;omega,fun k u hu=>?_⟩
   ·rw [hthr]
    by_cases c:i=k
    ·subst c
     exact⟨_,List.getElem?_set_self (by omega),by rw [upd_me];exact hR'⟩
    ·obtain⟨u,hu,hr⟩:=hX.thr k hk
     exact⟨u,by rw [List.getElem?_set_ne c];exact hu,by rw [upd_ot (fun g=>c g.symm)];exact hr⟩
   ·rw [hthr] at hu
    show (u.past:Int)≤X.picks+1
    by_cases c:i=k
    ·subst c
     rw [List.getElem?_set_self (by omega)] at hu
     cases hu
     have:=hP.past;omega
    ·rw [List.getElem?_set_ne c] at hu
     have:=hX.past k u hu;omega
  | some sv =>
   obtain⟨s,v⟩:=sv
   obtain⟨r1,r2,r3⟩:=hP.rel1 s v hrel
   have hS':stepS W.P i S (stepT W.P i m (S i) p).2=fun k=>if k=i then (stepT W.P i m (S i) p).2 else wakeT (S k) s v:=by unfold stepS;rw [hrel]
   have hthr:(macTell X i t draw).thr=wakeTo i s v X.thr.length (X.thr.set i (thrTell t (memDo X.mem (thrNext t).1).2 draw (X.picks+1))):=by
    unfold macTell
    simp only
    rw [if_pos r1,r2,r3]
   rw [hS']
   have hat:∀k u,X.thr[k]? = some u→(macTell X i t draw).thr[k]? = some (if k=i then thrTell t (memDo X.mem (thrNext t).1).2 draw (X.picks+1) else thrWake u s v):=fun k u hu=>by
    have hk3:k<X.thr.length:=(List.getElem?_eq_some_iff.1 hu).1
    rw [hthr,wakeTo_at]
    by_cases c:k=i
    ·subst c
     rw [List.getElem?_set_self (by omega),if_pos rfl]
     simp
    ·rw [List.getElem?_set_ne (fun g=>c g.symm),hu,if_neg c]
     simp [hk3,c]
   refine⟨hM',by rw [hthr,wakeTo_len];simpa using hlen,fun k hk=>?_,hstT p,by show 0≤X.picks+1;omega,fun k u hu=>?_⟩
   ·obtain⟨u,hu,hr⟩:=hX.thr k hk
    refine⟨_,hat k u hu,?_⟩
    by_cases c:k=i
    ·subst c
     rw [if_pos rfl,if_pos rfl]
     exact hR'
    ·rw [if_neg c,if_neg c]
     exact(wake_rt hW hr (fun g=>by have:=h.lo k hk;simp only [Lo,g] at this;exact this.1)).1
   ·have hk3:k<3:=by
     have:=(List.getElem?_eq_some_iff.1 hu).1
     rw [hthr,wakeTo_len,List.length_set] at this
     omega
    obtain⟨u',hu',hr⟩:=hX.thr k hk3
    have hu2:=hat k u' hu'
    rw [hu] at hu2
    cases hu2
    show ((if k=i then _ else _:ThrS).past:Int)≤X.picks+1
    by_cases c:k=i
    ·rw [if_pos c];have:=hP.past;omega
    ·rw [if_neg c,(wake_rt hW hr (fun g=>by have:=h.lo k hk3;simp only [Lo,g] at this;exact this.1)).2]
     have:=hX.past k u' hu';omega
abbrev iniT (W:Wo)(i:Nat):AT:=if 0=W.P.n i then { fresh 0 with ph:=.fin } else fresh 0
abbrev iniM (W:Wo):AM:=⟨fun _=>zeroLock,fun _=>0,W.s.start,fun _=>0⟩
theorem ini_inv (hW:WoOk W):Inv W.P (iniM W) (iniT W):=by
 have h:=hW.start
 refine⟨fun s=>⟨Int.le_refl _,h.1⟩,h.1,fun _=>Int.le_refl _,fun _ _=>rfl,fun s e=>(by cases e),fun i hi=>?_⟩
 unfold iniT
 by_cases c:0=W.P.n i
 ·rw [if_pos c];exact⟨c,rfl⟩
 ·rw [if_neg c];exact⟨by show 0<W.P.n i;omega,rfl,rfl,rfl,rfl⟩
theorem new_rm (hW:WoOk W):RM W (memFill (newMem W.s.shape) 6) (iniM W):=by
 have h1:=hW.words
 have h2:=hW.str
 have h3:=hW.wide
 have h4:=hW.thr
 have h5:=hW.start
 have e1:S.held W.s.words 32 256=W.s.words:=by unfold S.held;rw [if_neg (by omega),if_neg (by omega)]
 have e2:S.held W.s.stripes 1 16=W.s.stripes:=by unfold S.held;rw [if_neg (by omega),if_neg (by omega)]
 have e3:S.held W.s.threads 1 4=3:=by unfold S.held;rw [h4];rfl
 have hst:(newMem W.s.shape).n=W.s.start:=by
  show (if 4611686018427387904≤W.s.start then _ else W.s.start)=_
  rw [if_neg (by omega)]
 have hw:(newMem W.s.shape).w=List.replicate W.s.words.toNat 0:=by unfold newMem;simp only [TSet.shape,e1]
 have hl:(newMem W.s.shape).l=List.replicate W.s.stripes.toNat zeroLock:=by unfold newMem;simp only [TSet.shape,e2]
 have hs:(newMem W.s.shape).s=[0,0,0]:=by unfold newMem;simp only [TSet.shape,e3];rfl
 unfold memFill
 rw [if_neg (by decide)]
 refine memDo_rm ?_
 have es:memStep (newMem W.s.shape) ⟨2,5,0,14,zeroLock,zeroLock⟩=({ newMem W.s.shape with w:=(List.replicate W.s.words.toNat 0).set 5 14 },zeroAns):=by
  have e:inHeap 5 (newMem W.s.shape).w=true:=by unfold inHeap;rw [hw];simp;omega
  have e':memStep (newMem W.s.shape) ⟨2,5,0,14,zeroLock,zeroLock⟩=if inHeap 5 (newMem W.s.shape).w then ({ newMem W.s.shape with w:=(newMem W.s.shape).w.set 5 14 },zeroAns) else (newMem W.s.shape,errAns 2):=rfl
  rw [e',if_pos e,hw]
 rw [es]
 refine⟨by simp;omega,fun c hc=>?_,by rw [hl];simp;omega,fun s hs=>?_,hst,by rw [hs];rfl,fun i hi=>?_⟩
 ·simp only [List.getD_eq_getElem?_getD]
  rw [List.getElem?_set_ne (by omega),List.getElem?_replicate]
  split <;> rfl
 ·simp only [hl]
  simp only [List.getD_eq_getElem?_getD,List.getElem?_replicate]
  split <;> rfl
 ·simp only [hs]
  have:i=0∨i=1∨i=2:=by omega
  rcases this with rfl | rfl | rfl <;> rfl
theorem ini_rs {s:TSet}(hW:WoOk W)(hs:setHeld s 3=W.s):RS W (macNew s [(W.jobs 0).map progJ,(W.jobs 1).map progJ,(W.jobs 2).map progJ]) (iniM W) (iniT W):=by
 have key:∀i:Nat,RT W i (thrNew i W.s ((W.jobs i).map progJ)) (iniT W i)∧(thrNew i W.s ((W.jobs i).map progJ)).past=0:=fun i=>by
  unfold thrNew thrFollow
  rw [hW.hset]
  have:=again_rt (x:=⟨i,W.s,(W.jobs i).map progJ,-1+1,0,0,0,none,0,0,[],0,0,false,0,false⟩) (me:=i) (job:=0) hW rfl rfl rfl rfl rfl (Nat.zero_le _)
  exact this
 have e:macNew s [(W.jobs 0).map progJ,(W.jobs 1).map progJ,(W.jobs 2).map progJ]=⟨W.s,memFill (newMem W.s.shape) 6,[thrNew (0:Nat) W.s ((W.jobs 0).map progJ),thrNew (1:Nat) W.s ((W.jobs 1).map progJ),thrNew (2:Nat) W.s ((W.jobs 2).map progJ)],0⟩:=by
  unfold macNew
  rw [show ([(W.jobs 0).map progJ,(W.jobs 1).map progJ,(W.jobs 2).map progJ]:List (List (List TIns))).length=3 from rfl,hs]
  rfl
 rw [e]
 refine⟨new_rm hW,rfl,fun i hi=>?_,by show W.s.start≤W.s.start+0;omega,Int.le_refl _,fun i t ht=>?_⟩
 ·have:i=0∨i=1∨i=2:=by omega
  rcases this with rfl | rfl | rfl
  ·exact⟨_,rfl,(key 0).1⟩
  ·exact⟨_,rfl,(key 1).1⟩
  ·exact⟨_,rfl,(key 2).1⟩
 ·have hi:i<3:=(List.getElem?_eq_some_iff.1 ht).1
  have:i=0∨i=1∨i=2:=by omega
  rcases this with rfl | rfl | rfl <;> cases ht
  ·exact Int.le_of_eq (congrArg (fun n:Nat=>(n:Int)) (key 0).2)
  ·exact Int.le_of_eq (congrArg (fun n:Nat=>(n:Int)) (key 1).2)
  ·exact Int.le_of_eq (congrArg (fun n:Nat=>(n:Int)) (key 2).2)
theorem rests_iff (hX:RS W X m S):restsL X.thr=true↔Rest S:=by
 have hst:∀i t,i<3→X.thr[i]? = some t→((t.state=6∨t.state=4)↔((S i).ph=.wait∨(S i).ph=.fin)):=fun i t hi ht=>by
  obtain⟨t',ht',hr⟩:=hX.thr i hi
  rw [ht] at ht'
  cases ht'
  have hp:=hr.ph
  unfold RPh at hp
  cases e:(S i).ph <;> simp only [e] at hp <;> simp <;> omega
 have hlen:=hX.len
 obtain⟨t0,h0,r0⟩:=hX.thr 0 (by decide)
 obtain⟨t1,h1,r1⟩:=hX.thr 1 (by decide)
 obtain⟨t2,h2,r2⟩:=hX.thr 2 (by decide)
 have e:X.thr=[t0,t1,t2]:=by
  refine List.ext_getElem? fun k=>?_
  match k with
  | 0=>exact h0
  | 1=>exact h1
  | 2=>exact h2
  | k+3=>rw [List.getElem?_eq_none (by omega)];rfl
 rw [e]
 simp only [restsL,Bool.and_eq_true,Bool.or_eq_true,decide_eq_true_eq,Bool.and_true,and_true]
 rw [hst 0 t0 (by decide) h0,hst 1 t1 (by decide) h1,hst 2 t2 (by decide) h2]
 constructor
 ·rintro⟨g0,g1,g2⟩ i hi
  have:i=0∨i=1∨i=2:=by omega
  rcases this with rfl | rfl | rfl
  ·exact g0
  ·exact g1
  ·exact g2
 ·exact fun g=>⟨g 0 (by decide),g 1 (by decide),g 2 (by decide)⟩
theorem end_of {i:Nat}{t:ThrS}(hW:WoOk W)(hi:i<3)(h:Inv W.P m S)(hX:RS W X m S)(hr:Rest S)(ht:X.thr[i]? = some t) :
  (t.state≠4∧t.res.length=(W.jobs i).length)∨(t.state=4∧∃a b,(W.jobs i)[t.res.length]? = some (.takes a b)∧X.mem.w.getD a.toNat 0=0∧X.mem.w.getD b.toNat 0=0∧8≤a∧a≤11∧8≤b∧b≤11):=by
 obtain⟨t',ht',r⟩:=hX.thr i hi
 rw [ht] at ht'
 cases ht'
 obtain⟨z1,z2⟩:=rest_zero h hr hi
 have hp:=r.ph
 have hres:=r.res
 unfold RPh at hp
 rcases hr i hi with e | e
 ·right
  rw [e] at hp
  obtain⟨s4,_⟩:=hp
  obtain⟨g1,g2,g3⟩:=z1 e
  have hlt:t.res.length<(W.jobs i).length:=by rw [hres];exact g1
  have ej:(W.jobs i)[t.res.length]? = some (W.P.job i (S i).job):=by
   unfold Pr.job
   rw [hres,List.getD_eq_getElem?_getD,List.getElem?_eq_getElem (by rw [←hres];exact hlt)];rfl
  have hjo:=hW.jobAt i (S i).job
  refine⟨s4,?_⟩
  cases hj:W.P.job i (S i).job with
  | puts c=>rw [hj] at g2;cases g2
  | takes a b =>
   rw [hj] at ej g3 hjo
   obtain⟨o1,o2⟩:=hjo
   have w1:=g3 false
   have w2:=g3 true
   refine⟨a,b,ej,?_,?_,by omega,by omega,by omega,by omega⟩
   ·rw [hX.mem.w a (by omega)];exact w1
   ·rw [hX.mem.w b (by omega)];exact w2
 ·left
  rw [e] at hp
  have s6:t.state=6:=hp
  exact⟨by rw [s6];decide,by rw [hres];exact z2 e⟩
end
end Go.Proofs.YtoealglbimbbmaaGreatDoor.S.Tw
