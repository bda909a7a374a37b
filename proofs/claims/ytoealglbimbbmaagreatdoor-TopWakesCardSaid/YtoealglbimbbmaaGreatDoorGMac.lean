import Derived.Test.YtoealglbimbbmaaGreatDoorGThrN
namespace Go.Proofs.YtoealglbimbbmaaGreatDoor.S
open Go Go.Proofs
set_option linter.unusedVariables false
set_option linter.unusedSimpArgs false
structure MacS where
 s:TSet
 mem:MemS
 thr:List ThrS
 picks:Int
abbrev thrF (p:Nat×ThrS):Asn:=ob ThrR p.1 p.2
abbrev MacS.cells (x:MacS)(mp:Nat)(vt:Value)(o:TOp)(did:Bool):List Value:=[i64 x.s.words,i64 x.s.stripes,i64 x.s.wide,i64 x.s.threads,u64 x.s.start,i64 x.s.spins,i64 x.s.writes,i64 x.s.fuel,ptr mp 0,vt,i64 x.picks,
 i64 o.kind,i64 o.place,u64 o.old,u64 o.word,u64 o.was.version,.bool o.was.held,i64 o.was.owner,u64 o.lock.version,.bool o.lock.held,i64 o.lock.owner,.bool did]
def MacR (b:Nat)(x:MacS):Asn:=exA fun mp=>exA fun vt=>exA fun o:TOp=>exA fun did=>exA fun l:List (Nat×ThrS)=>star (pureA (l.map (·.2)=x.thr)) (star (star (star (own b (x.cells mp vt o did)) (ob MemR mp x.mem)) (sl ptrE vt (l.map (·.1)))) (ob (BigO thrF) () l))
section
variable {w0:Base}{L M:List Asn}{K:KV}{F:World→Prop}{C:Asn→List Asn}{b mp:Nat}{x:MacS}{v vt:Value}{o:TOp}{did:Bool}
theorem MacR_open:G w0 (ob MacR b x::M) F=∀mp vt (o:TOp) did (l:List (Nat×ThrS)),l.map (·.2)=x.thr→G w0 (own b (x.cells mp vt o did)::ob MemR mp x.mem::sl ptrE vt (l.map (·.1))::ob (BigO thrF) () l::M) F:=by
 rw [ob_eq,MacR]
 simp only [G_ex,G_star,G_pure]
theorem MacR_close (b:Nat)(x:MacS)(mp:Nat)(vt:Value)(o:TOp)(did:Bool)(l:List (Nat×ThrS)){ps:List Nat}(hps:l.map (·.1)=ps)(hl:l.map (·.2)=x.thr) [PickAll [own b (x.cells mp vt o did),ob MemR mp x.mem,sl ptrE vt ps,ob (BigO thrF) () l] L M](H:G w0 (ob MacR b x::M) F):G w0 L F :=
 G.pickAll (As:=[own b (x.cells mp vt o did),ob MemR mp x.mem,sl ptrE vt ps,ob (BigO thrF) () l]) (by rw [MacR_open] at H;have:=H mp vt o did l hl;rw [hps] at this;exact this)
theorem Big_set {α:Type}{f:α→Asn}{l:List α}{y:α}{k:Nat}(hk:k<l.length):G w0 (ob (BigO f) () (l.set k y)::M) F=G w0 (f y::ob (BigO f) () (l.eraseIdx k)::M) F:=by
 rw [Big_at (k:=k) (x:=y) (by rw [List.getElem?_set_self hk])]
 rw [List.eraseIdx_set_eq]
theorem map_at {l:List (Nat×ThrS)}{i:Nat}{t:ThrS}{thr:List ThrS}(hl:l.map (·.2)=thr)(hi:thr[i]? = some t):∃p,l[i]? = some (p,t):=by
 rw [←hl,List.getElem?_map] at hi
 cases h:l[i]? with
 | none=>rw [h] at hi;cases hi
 | some q=>rw [h] at hi;cases hi;exact⟨q.1,rfl⟩
theorem map_fst {l:List (Nat×ThrS)}{i p:Nat}{t:ThrS}(h:l[i]? = some (p,t)):Elem (l.map (·.1)) i p:=⟨by rw [List.getElem?_map,h];rfl⟩
theorem map_lt {l:List (Nat×ThrS)}{i p:Nat}{t:ThrS}(h:l[i]? = some (p,t)):i<l.length:=(List.getElem?_eq_some_iff.1 h).1
theorem fst_set {l:List (Nat×ThrS)}{i p:Nat}{t y:ThrS}(h:l[i]? = some (p,t)):(l.set i (p,y)).map (·.1)=l.map (·.1):=by
 refine List.ext_getElem? fun j=>?_
 rw [List.getElem?_map,List.getElem?_map,List.getElem?_set]
 by_cases c:i=j
 ·subst c;rw [if_pos rfl,if_pos (map_lt h),h];rfl
 ·rw [if_neg c]
theorem Big_back {l:List (Nat×ThrS)}{i p:Nat}{t y:ThrS}(h:l[i]? = some (p,t)) [PickAll [ob ThrR p y,ob (BigO thrF) () (l.eraseIdx i)] L M](H:G w0 (ob (BigO thrF) () (l.set i (p,y))::M) F):G w0 L F :=
 G.pickAll (As:=[ob ThrR p y,ob (BigO thrF) () (l.eraseIdx i)]) (by rw [Big_set (map_lt h)] at H;exact H)
theorem Big_same {l:List (Nat×ThrS)}{i p:Nat}{t:ThrS}(h:l[i]? = some (p,t)) [PickAll [ob ThrR p t,ob (BigO thrF) () (l.eraseIdx i)] L M](H:G w0 (ob (BigO thrF) () l::M) F):G w0 L F :=
 G.pickAll (As:=[ob ThrR p t,ob (BigO thrF) () (l.eraseIdx i)]) (by rw [Big_at h] at H;exact H)
def wakeTo (i:Nat)(s ver:Int)(k:Nat)(l:List ThrS):List ThrS:=l.mapIdx fun j u=>if j<k∧j≠i then thrWake u s ver else u
theorem wakeTo_len {i k:Nat}{s ver:Int}{l:List ThrS}:(wakeTo i s ver k l).length=l.length:=by unfold wakeTo;simp
theorem wakeTo_at {i k j:Nat}{s ver:Int}{l:List ThrS}:(wakeTo i s ver k l)[j]? = l[j]?.map fun u=>if j<k∧j≠i then thrWake u s ver else u:=by unfold wakeTo;rw [List.getElem?_mapIdx]
theorem wakeTo_zero {i:Nat}{s ver:Int}{l:List ThrS}:wakeTo i s ver 0 l=l:=List.ext_getElem? fun j=>by rw [wakeTo_at];cases l[j]? <;> simp
theorem wakeTo_me {i:Nat}{s ver:Int}{l:List ThrS}:wakeTo i s ver (i+1) l=wakeTo i s ver i l:=List.ext_getElem? fun j=>by
 rw [wakeTo_at,wakeTo_at]
 congr 1
 funext u
 by_cases h:j<i
 ·rw [if_pos ⟨by omega,by omega⟩,if_pos ⟨h,by omega⟩]
 ·rw [if_neg (by omega),if_neg (by omega)]
theorem wakeTo_next {i k:Nat}{s ver:Int}{l:List ThrS}{u:ThrS}(hu:l[k]? = some u)(hk:k≠i):wakeTo i s ver (k+1) l=(wakeTo i s ver k l).set k (thrWake u s ver):=List.ext_getElem? fun j=>by
 have hlt:=(List.getElem?_eq_some_iff.1 hu).1
 rw [wakeTo_at]
 by_cases h:k=j
 ·subst h
  rw [List.getElem?_set_self (by rw [wakeTo_len];exact hlt),hu]
  simp [hk]
 ·rw [List.getElem?_set_ne h,wakeTo_at]
  congr 1
  funext u
  by_cases h2:j<k
  ·by_cases h3:j=i
   ·rw [if_neg (by omega),if_neg (by omega)]
   ·rw [if_pos ⟨by omega,h3⟩,if_pos ⟨h2,h3⟩]
  ·rw [if_neg (by omega),if_neg (by omega)]
def macTell (x:MacS)(i:Nat)(t:ThrS)(draw:Int):MacS:={ x with mem:=(memDo x.mem (thrNext t).1).1,thr:=if (thrNext t).1.kind=5 then wakeTo i (thrNext t).1.place (thrNext t).1.lock.version x.thr.length (x.thr.set i (thrTell t (memDo x.mem (thrNext t).1).2 draw (x.picks+1))) else x.thr.set i (thrTell t (memDo x.mem (thrNext t).1).2 draw (x.picks+1)),picks:=x.picks+1 }
abbrev macRest (x:MacS)(i:Nat)(t:ThrS):MacS:={ x with thr:=x.thr.set i (thrRest t),picks:=x.picks+1 }
structure PickOk (x:MacS)(i:Nat)(t:ThrS):Prop where
 at_:x.thr[i]? = some t
 few:x.thr.length≤4
 picks:0≤x.picks∧x.picks<1000000000
 st:t.state≠5
 run:t.state=1→∃a,t.now=some a∧(a.state≠0→a.state≠1→a.state≠2→a.state≠7→a.state≠8→a.inn.ok)
 jobs:JobsOk t
 pauses:(thrNext t).2=false→t.state=3→1≤t.pauses∧t.pauses≤100
 hear:(thrNext t).2=true→HearOk t (memDo x.mem (thrNext t).1).2
 others:∀k u,x.thr[k]? = some u→k≠i→JobsOk u∧∀a,u.now=some a→a.rd.length≤1000
theorem s_machine_Pick {i:Nat}{t:ThrS}{draw:Int}(ho:PickOk x i t)(hd:0≤draw)(hd2:draw≤255)[i_:SelOb L MacR b x C]
  (hK:G w0 (C (ob MacR b (if (thrNext t).2=true then macTell x i t draw else macRest x i t))) (K (i64 0))):G w0 L (CP Tryz.prog Fn.machine_Machine_Pick [ptr b 0,i64 i,.int .u8 draw] K):=by
 refine i_.use (fun M hK=>?_) hK
 refine C_machine_Machine_Pick ?_
 unfold S_machine_Machine_Pick
 rw [MacR_open]
 intro mp vt o did l hl
 obtain⟨p,hp⟩:=map_at hl ho.at_
 have e:=map_fst hp
 have hlt:=map_lt hp
 have hll:l.length=x.thr.length:=by rw [←hl];simp
 have hf:=ho.few
 have hpk:=ho.picks
 have n1:¬(i:Int)<0:=by omega
 have n2:¬((l.map (·.1)).length:Int)≤i:=by simp;omega
 have epk:IntKind.wrap .i64 (x.picks+1)=x.picks+1:=wi64 (by omega) (by omega)
 try simp (maxSteps:=2000000) only [fuse_and,fuse_or,fuse_step,fuse_pair,fuse_in,andP_true]
 refine gf (an n1 (an n2 epk)) ?_
 refine G.take1 (BigO thrF) () ?_
 rw [Big_at hp]
 refine s_thread_Next (x:=t) ho.st ho.run ?_
 unfold macTell at hK
 generalize hnx:thrNext t=nx at hK
 have hear:=ho.hear
 have hpau:=ho.pauses
 rw [hnx] at hear hpau
 obtain⟨op,d⟩:=nx
 simp only at hear hpau hK
 cases d
 ·rw [if_neg (by decide)] at hK
  refine gg ?_
  refine s_thread_Pause (x:=t) ho.jobs (hpau rfl) ?_
  repeat' (first | (with_reducible refine G.joini0 ?_) | (with_reducible refine G.joini1 ?_) | (with_reducible refine G.drew ?_) | (simp (maxSteps:=2000000) only [↓RG,RP,RB,BEq.rfl,Int.reduceEq,Int.reduceLT,Int.reduceLE,Nat.reduceEqDiff]))
  refine Big_back (y:=thrRest t) hp ?_
  refine MacR_close b (macRest x i t) mp vt op false (l.set i (p,thrRest t)) (fst_set hp) (by rw [List.map_set,hl]) ?_
  exact hK.sub
 ·rw [if_pos rfl] at hK
  repeat' (first | (with_reducible refine G.joini0 ?_) | (with_reducible refine G.joini1 ?_) | (with_reducible refine G.drew ?_) | (simp (maxSteps:=2000000) only [↓RG,RP,RB,BEq.rfl,Int.reduceEq,Int.reduceLT,Int.reduceLE,Nat.reduceEqDiff]))
  refine s_mem_Mem_Do (m:=x.mem) (o:=op) ?_
  refine gg ?_
  refine s_thread_Tell (x:=t) ho.st (hear rfl) hd hd2 ?_
  refine gg ?_
  generalize thrTell t (memDo x.mem op).2 draw (x.picks+1)=t2 at hK
  generalize (memDo x.mem op).1=m2 at hK
  refine Big_back (y:=t2) hp ?_
  have e2:=fst_set (y:=t2) hp
  have hl2:(l.set i (p,t2)).map (·.2)=x.thr.set i t2:=by rw [List.map_set,hl]
  have hq:∀k u,k≠i→(x.thr.set i t2)[k]? = some u→JobsOk u∧∀a,u.now=some a→a.rd.length≤1000:=fun k u hk h=>by
   rw [List.getElem?_set_ne (fun g=>hk g.symm)] at h
   exact ho.others k u h hk
  have hll2:(l.set i (p,t2)).length=l.length:=by simp
  generalize l.set i (p,t2)=l2 at e2 hl2 hll2
  have hfin:∀(l3:List (Nat×ThrS)) (thr3:List ThrS),l3.map (·.1)=l.map (·.1)→l3.map (·.2)=thr3→G w0 (ob MacR b { x with mem:=m2,thr:=thr3,picks:=x.picks+1 }::M) (K (i64 0))→G w0 (ob (BigO thrF) () l3::own b (MacS.cells { x with mem:=m2,picks:=x.picks+1 } mp vt op true)::ob MemR mp m2::sl ptrE vt (l.map (·.1))::M) (K (i64 0)):=fun l3 thr3 g1 g2 g3=>by
   refine MacR_close b { x with mem:=m2,thr:=thr3,picks:=x.picks+1 } mp vt op true l3 g1 g2 ?_
   exact g3.sub
  by_cases c5:op.kind=5
  ·rw [if_pos c5] at hK
   have hlen3:(x.thr.set i t2).length=l.length:=by simp [hll]
   rw [←hll] at hK
   generalize x.thr.set i t2=thr2 at hK hl2 hq hlen3
   refine grf (eq_true c5) ?_
   refine G.loop1 (σ:=Nat×List (Nat×ThrS)) (fun z=>i64 z.1) (fun z=>ob (BigO thrF) () z.2::own b (MacS.cells { x with mem:=m2,picks:=x.picks+1 } mp vt op true)::ob MemR mp m2::sl ptrE vt (l.map (·.1))::M)
    (fun z=>z.1≤l.length∧z.2.map (·.1)=l.map (·.1)∧z.2.map (·.2)=wakeTo i op.place op.lock.version z.1 thr2) (fun z=>l.length-z.1) (0,l2) rfl rfl ⟨Nat.zero_le _,e2,by rw [wakeTo_zero];exact hl2⟩ ?_
   rintro⟨k,l3⟩ ⟨hk,g1,g2⟩ J hJ
   simp only at hk g1 g2 hJ ⊢
   have hlen:l3.length=l.length:=by have:=congrArg List.length g1;simpa using this
   refine gr ?_
   refine G.cond (fun h=>?_) (fun h=>?_)
   ·have hk2:k<l.length:=by simpa using h
    have hk3:k<l3.length:=by omega
    rcases hu:l3[k] with ⟨pk,u⟩
    have hk4:l3[k]? = some (pk,u):=by rw [List.getElem?_eq_getElem hk3,hu]
    have ek:Elem (l.map (·.1)) k pk:=by rw [←g1];exact map_fst hk4
    have hu2:thr2[k]? = some u:=by
     have h1:(l3.map (·.2))[k]? = some u:=by rw [List.getElem?_map,hk4];rfl
     rw [g2,wakeTo_at] at h1
     cases ht:thr2[k]? with
     | none=>rw [ht] at h1;cases h1
     | some u2=>rw [ht] at h1;simpa using h1
    by_cases ci:k=i
    ·subst ci
     have hn:=hJ (k+1,l3) ⟨hk2,g1,by rw [g2,wakeTo_me]⟩ (by simp only;omega)
     refine gg ?_
     rw [wsucc (by omega)]
     exact hn.sub
    ·have ci2:¬(k:Int)=i:=by omega
     obtain⟨j1,j2⟩:=hq k _ ci hu2
     have hn:=hJ (k+1,l3.set k (pk,thrWake u op.place op.lock.version)) ⟨hk2,by rw [fst_set hk4,g1],by rw [List.map_set,g2,wakeTo_next hu2 ci]⟩ (by simp only;omega)
     repeat' (first | (with_reducible refine G.joini0 ?_) | (with_reducible refine G.joini1 ?_) | (with_reducible refine G.drew ?_) | (simp (maxSteps:=2000000) only [↓RG,RP,RB,BEq.rfl,Int.reduceEq,Int.reduceLT,Int.reduceLE,Nat.reduceEqDiff,ci2]))
     refine G.take1 (BigO thrF) () ?_
     rw [Big_at hk4]
     refine s_thread_Wake (x:=u) j1 j2 ?_
     rw [wsucc (by omega)]
     refine Big_back (y:=thrWake u op.place op.lock.version) hk4 ?_
     exact hn.sub
   ·have hk2:k=l.length:=by
     have:¬k<l.length:=by simpa using h
     omega
    refine gr ?_
    refine G.sub (hfin l3 (wakeTo i op.place op.lock.version l.length thr2) g1 (by rw [g2,hk2]) hK)
  ·rw [if_neg c5] at hK
   refine grf c5 ?_
   exact(hfin l2 _ e2 hl2 hK).sub
theorem s_machine_State {i:Nat}{t:ThrS}(hi:x.thr[i]? = some t)(hf:x.thr.length≤4)[i_:SelOb L MacR b x C](hK:G w0 L (K (i64 t.state))):G w0 L (CP Tryz.prog Fn.machine_Machine_State [ptr b 0,i64 i] K):=by
 refine i_.ro (fun M hK=>?_) hK
 refine C_machine_Machine_State ?_
 unfold S_machine_Machine_State
 refine C_machine_Machine_of ?_
 unfold S_machine_Machine_of
 rw [MacR_open] at *
 intro mp vt o did l h
 have hK:=hK mp vt o did l h
 obtain⟨p,hp⟩:=map_at h hi
 have e:=map_fst hp
 have hlt:=map_lt hp
 have hll:l.length=x.thr.length:=by rw [←h];simp
 have n1:¬(i:Int)<0:=by omega
 have n2:¬((l.map (·.1)).length:Int)≤i:=by simp;omega
 try simp (maxSteps:=2000000) only [fuse_and,fuse_or,fuse_step,fuse_pair,fuse_in,andP_true]
 refine gf (an n1 n2) ?_
 refine G.take1 (BigO thrF) () ?_
 rw [Big_at hp]
 refine s_thread_State (x:=t) ?_
 rw [←Big_at hp]
 exact hK.sub
theorem s_machine_Threads [i:SelOb L MacR b x C](hK:G w0 L (K (i64 x.thr.length))):G w0 L (CP Tryz.prog Fn.machine_Machine_Threads [ptr b 0] K):=by
 refine i.ro (fun M hK=>?_) hK
 refine C_machine_Machine_Threads ?_
 unfold S_machine_Machine_Threads
 rw [MacR_open] at *
 intro mp vt o did l hl
 have hK:=hK mp vt o did l hl
 have e:((l.map (·.1)).length:Int)=x.thr.length:=by rw [←hl];simp
 refine grf e ?_
 exact hK
theorem s_machine_Words (hl:x.mem.w.length≤1000000)[i:SelOb L MacR b x C](hK:∀u,Cells u [u]→G w0 (sl wordE u x.mem.w::L) (K u)):G w0 L (CP Tryz.prog Fn.machine_Machine_Words [ptr b 0] K):=by
 refine i.roN (fun M hK=>?_) hK
 refine C_machine_Machine_Words ?_
 unfold S_machine_Machine_Words
 rw [MacR_open]
 intro mp vt o did l h
 refine gr ?_
 refine s_mem_Mem_Words (m:=x.mem) hl fun u hu=>?_
 refine MacR_close b x mp vt o did l rfl h ?_
 exact(hK u hu).sub
def restsL:List ThrS→Bool
 | []=>true
 | t::l=>(decide (t.state=6) || decide (t.state=4)) && restsL l
theorem s_machine_Rests (hf:x.thr.length≤4)[i:SelOb L MacR b x C](hK:G w0 L (K (.bool (restsL x.thr)))):G w0 L (CP Tryz.prog Fn.machine_Machine_Rests [ptr b 0] K):=by
 refine i.ro (fun M hK=>?_) hK
 refine C_machine_Machine_Rests ?_
 unfold S_machine_Machine_Rests
 rw [MacR_open] at *
 intro mp vt o did l hl
 have hK:=hK mp vt o did l hl
 have hll:l.length=x.thr.length:=by rw [←hl];simp
 refine gr ?_
 refine G.loop1 (fun k:Nat=>i64 k) (fun k=>own b (x.cells mp vt o did)::ob MemR mp x.mem::sl ptrE vt (l.map (·.1))::ob (BigO thrF) () l::M) (fun k=>k≤l.length∧restsL x.thr=restsL (x.thr.drop k)) (fun k=>l.length-k) 0 rfl rfl (by simp) ?_
 intro k ⟨hk,hr⟩ J hJ
 refine gr ?_
 refine G.cond (fun h=>?_) (fun h=>?_)
 ·have hk2:k<l.length:=by simpa using h
  rcases hu:l[k] with ⟨pk,u⟩
  have hk4:l[k]? = some (pk,u):=by rw [List.getElem?_eq_getElem hk2,hu]
  have ek:Elem (l.map (·.1)) k pk:=map_fst hk4
  have hd:x.thr.drop k=u::x.thr.drop (k+1):=by
   have ht:x.thr[k]? = some u:=by rw [←hl,List.getElem?_map,hk4];rfl
   obtain⟨g1,g2⟩:=List.getElem?_eq_some_iff.1 ht
   rw [List.drop_eq_getElem_cons g1,g2]
  rw [hd,show restsL (u::x.thr.drop (k+1))=((decide (u.state=6) || decide (u.state=4)) && restsL (x.thr.drop (k+1))) from rfl] at hr
  try simp (maxSteps:=2000000) only [fuse_and,fuse_or,fuse_step,fuse_pair,fuse_in,andP_true]
  refine gr ?_
  refine G.take1 (BigO thrF) () ?_
  rw [Big_at hk4]
  refine s_thread_State (x:=u) ?_
  rw [←Big_at hk4]
  by_cases c6:u.state=6
  ·have hn:=hJ (k+1) ⟨hk2,by rw [hr];simp [c6]⟩ (by omega)
   refine grf c6 ?_
   rw [wsucc (by omega)]
   exact hn.sub
  ·by_cases c4:u.state=4
   ·have hn:=hJ (k+1) ⟨hk2,by rw [hr];simp [c4]⟩ (by omega)
    refine grf (an c6 c4) ?_
    rw [wsucc (by omega)]
    exact hn.sub
   ·have e:restsL x.thr=false:=by rw [hr];simp [c6,c4]
    rw [e] at hK
    refine grf (an c6 c4) ?_
    exact hK.sub
 ·have hk2:k=x.thr.length:=by
   have:¬k<l.length:=by simpa using h
   omega
  have e:restsL x.thr=true:=by rw [hr,hk2,List.drop_length];rfl
  rw [e] at hK
  refine gr ?_
  exact hK
theorem s_machine_Results {i:Nat}{t:ThrS}(hi:x.thr[i]? = some t)(hf:x.thr.length≤4)(hl:t.res.length≤1000000)[i_:SelOb L MacR b x C](hK:∀u,Cells u [u]→G w0 (sl tResE u t.res::L) (K u)):G w0 L (CP Tryz.prog Fn.machine_Machine_Results [ptr b 0,i64 i] K):=by
 refine i_.roN (fun M hK=>?_) hK
 refine C_machine_Machine_Results ?_
 unfold S_machine_Machine_Results
 refine C_machine_Machine_of ?_
 unfold S_machine_Machine_of
 rw [MacR_open]
 intro mp vt o did l h
 obtain⟨p,hp⟩:=map_at h hi
 have e:=map_fst hp
 have hlt:=map_lt hp
 have n1:¬(i:Int)<0:=by omega
 have n2:¬((l.map (·.1)).length:Int)≤i:=by simp;omega
 try simp (maxSteps:=2000000) only [fuse_and,fuse_or,fuse_step,fuse_pair,fuse_in,andP_true]
 refine gf (an n1 n2) ?_
 refine G.take1 (BigO thrF) () ?_
 rw [Big_at hp]
 refine s_thread_Results (x:=t) hl fun u hu=>?_
 refine Big_same hp ?_
 refine MacR_close b x mp vt o did l rfl h ?_
 exact(hK u hu).sub
theorem s_machine_Attempts (hs:∀t∈x.thr,t.state≠1∧t.past≤1000000)(hf:x.thr.length≤4)[i:SelOb L MacR b x C](hK:∀u (l:List TAtt),Cells u [u]→l.length=(x.thr.map (·.past)).sum→G w0 (sl tAttE u l::L) (K u)):G w0 L (CP Tryz.prog Fn.machine_Machine_Attempts [ptr b 0] K):=by
 refine i.roN (ι:=Value×List TAtt) (P:=fun z=>Cells z.1 [z.1]∧z.2.length=(x.thr.map (·.past)).sum) (N:=fun z=>sl tAttE z.1 z.2) (F':=fun z=>K z.1) (fun M hK=>?_) (fun z h=>hK z.1 z.2 h.1 h.2)
 refine C_machine_Machine_Attempts ?_
 unfold S_machine_Machine_Attempts
 rw [MacR_open]
 intro mp vt o did l hl
 have hll:l.length=x.thr.length:=by rw [←hl];simp
 refine gr ?_
 refine G.nilsl tAttE ?_
 refine G.loop2 (σ:=Nat×List TAtt×Value) (fun z=>z.2.2) (fun z=>i64 z.1) (fun z=>sl tAttE z.2.2 z.2.1::own b (x.cells mp vt o did)::ob MemR mp x.mem::sl ptrE vt (l.map (·.1))::ob (BigO thrF) () l::M)
  (fun z=>z.1≤l.length∧z.2.1.length=((x.thr.take z.1).map (·.past)).sum∧z.2.1.length≤z.1*1000000∧Cells z.2.2 [z.2.2]) (fun z=>l.length-z.1) (0,[],.slice none 0 0) rfl rfl rfl ⟨Nat.zero_le _,rfl,Nat.zero_le _,cells_slice⟩ ?_
 rintro⟨k,ys,vy⟩ ⟨hk,hy,hy2,hvy⟩ J hJ
 simp only at hk hy hy2 hvy hJ ⊢
 refine gr ?_
 refine G.cond (fun h=>?_) (fun h=>?_)
 ·have hk2:k<l.length:=by simpa using h
  rcases hu:l[k] with ⟨pk,u⟩
  have hk4:l[k]? = some (pk,u):=by rw [List.getElem?_eq_getElem hk2,hu]
  have ek:Elem (l.map (·.1)) k pk:=map_fst hk4
  have ht:x.thr[k]? = some u:=by rw [←hl,List.getElem?_map,hk4];rfl
  obtain⟨g1,g2⟩:=List.getElem?_eq_some_iff.1 ht
  obtain⟨hs1,hs2⟩:=hs u (List.mem_of_getElem? ht)
  refine gr ?_
  refine G.take1 (BigO thrF) () ?_
  rw [Big_at hk4]
  refine s_thread_Attempts (x:=u) hs1 hs2 fun w zs hw hz=>?_
  refine Big_same hk4 ?_
  refine G.append (E:=tAttE) (xs:=ys) (ys:=zs) (by omega) (by simp only [maxLen];omega) fun u5 h5=>?_
  refine gr ?_
  rw [wsucc (by omega)]
  exact(hJ (k+1,ys++zs,u5) ⟨hk2,by rw [List.length_append,hy,hz,List.take_succ_eq_append_getElem (by omega),List.map_append,List.sum_append,g2];simp,by simp only [List.length_append];omega,h5⟩ (by simp only;omega)).sub
 ·have hk2:k=x.thr.length:=by
   have:¬k<l.length:=by simpa using h
   omega
  refine gr ?_
  have h2:=hK (vy,ys) ⟨hvy,by rw [hy,hk2,List.take_length]⟩
  rw [G_swap,MacR_open] at h2
  exact(h2 mp vt o did l hl).sub
abbrev rowF (p:SlV×List (List TIns)):Asn:=ob JobsR p.1.v p.2
def RowsR (v:Value)(rows:List (List (List TIns))):Asn:=exA fun l:List (SlV×List (List TIns))=>star (pureA (l.map (·.2)=rows)) (star (sl progE v (l.map (·.1))) (ob (BigO rowF) () l))
theorem Rows_open {rows:List (List (List TIns))}:G w0 (ob RowsR v rows::M) F=∀l:List (SlV×List (List TIns)),l.map (·.2)=rows→G w0 (sl progE v (l.map (·.1))::ob (BigO rowF) () l::M) F:=by
 rw [ob_eq,RowsR]
 simp only [G_ex,G_star,G_pure]
theorem s_arena_Fresh {n:Int}(hK:∀u,Cells u [u]→G w0 (sl wordE u ((List.replicate (held n 32 256).toNat 0).set 5 14)::L) (K u)):G w0 L (CP Tryz.prog Fn.arena_Fresh [i64 n] K):=by
 refine C_arena_Fresh ?_
 unfold S_arena_Fresh
 have e:(if (if (256:Int)<n then 256 else n) > 32 then (if (256:Int)<n then 256 else n) else 32)=held n 32 256:=memHeld_core (by decide)
 have hh:=held_le (n:=n) (lo:=32) (hi:=256) (by decide)
 refine grf e ?_
 obtain⟨j,hj⟩:∃j:Nat,held n 32 256=j:=⟨(held n 32 256).toNat,by omega⟩
 have h1:32≤j:=by omega
 have h2:j≤256:=by omega
 rw [hj] at hK ⊢
 simp only [Int.toNat_natCast] at hK
 refine G.make wordE 0 rfl (by simp only [maxLen];omega) (by omega) fun u hu=>?_
 have e5:Elem (List.replicate j (0:Int)) 5 0:=⟨by rw [List.getElem?_replicate,if_pos (by omega)]⟩
 refine gr ?_
 exact hK u hu
abbrev memFill (m:MemS)(k:Nat):MemS:=if k≤5 then m else (memDo m ⟨2,5,0,14,zeroLock,zeroLock⟩).1
abbrev setHeld (s:TSet)(rows:Nat):TSet:=heldSet { s with threads:=rows }
abbrev TSet.shape (s:TSet):TShape:=⟨s.words,s.stripes,s.wide,s.threads,s.start⟩
def thrRows (s:TSet):Nat→List (List (List TIns))→List ThrS
 | _,[]=>[]
 | i,r::l=>thrNew i s r::thrRows s (i+1) l
theorem thrRows_snoc {s:TSet}{r:List (List TIns)}:∀{l:List (List (List TIns))}{i:Nat},thrRows s i (l++[r])=thrRows s i l++[thrNew ((i+l.length:Nat):Int) s r]
 | [],i=>rfl
 | a::l,i=>by
  rw [List.cons_append,thrRows,thrRows,thrRows_snoc,List.cons_append]
  congr 4
  simp only [List.length_cons];omega
abbrev macNew (s:TSet)(rows:List (List (List TIns))):MacS :=
 ⟨setHeld s rows.length,memFill (newMem (setHeld s rows.length).shape) 6,thrRows (setHeld s rows.length) 0 rows,0⟩
theorem Big_row {l:List (SlV×List (List TIns))}{i:Nat}{q:SlV×List (List TIns)}(h:l[i]? = some q) [PickAll [ob JobsR q.1.v q.2,ob (BigO rowF) () (l.eraseIdx i)] L M](H:G w0 (ob (BigO rowF) () l::M) F):G w0 L F :=
 G.pickAll (As:=[ob JobsR q.1.v q.2,ob (BigO rowF) () (l.eraseIdx i)]) (by rw [Big_at h] at H;exact H)
theorem s_machine_New {s:TSet}{rows:List (List (List TIns))}(h0:0<rows.length)(h4:rows.length≤4)(hr:∀r∈rows,r.length≤6∧∀p∈r,p.length≤1000)[i:SelOb L RowsR v rows C](hv:Cells v [v])
  (hK:∀b,G w0 (ob MacR b (macNew s rows)::L) (K (ptr b 0))):G w0 L (CP Tryz.prog Fn.machine_New [.agg (TSet.cells s).toArray,v] K):=by
 refine i.roN (P:=fun _=>True) (N:=fun b=>ob MacR b (macNew s rows)) (F':=fun b=>K (ptr b 0)) (fun M hK=>?_) (fun b _=>hK b)
 refine C_machine_New ?_
 unfold S_machine_New
 obtain⟨S,hS⟩:∃S,heldSet { s with threads:=(rows.length:Int) }=S:=⟨_,rfl⟩
 have hSS:heldSet S=S:=by rw [←hS];exact heldSet_held _
 have hw:=held_le (n:=s.words) (lo:=32) (hi:=256) (by decide)
 have hSw:S.words=held s.words 32 256:=by rw [←hS];rfl
 have hSt:S.threads=rows.length:=by
  rw [←hS]
  show held (rows.length:Int) 1 4=_
  unfold held;rw [if_neg (by omega),if_neg (by omega)]
 simp only [macNew,setHeld,hS] at hK
 rw [Rows_open]
 intro l hl
 have hlen:l.length=rows.length:=by rw [←hl];simp
 refine G.box fun q=>?_
 have hc:(if ((4:Int)<((l.map (·.1)).length:Int)) then 4 else ((l.map (·.1)).length:Int))=((l.map (·.1)).length:Int):=by rw [if_neg (by simp;omega)]
 repeat' (first | (with_reducible refine G.joini0 ?_) | (with_reducible refine G.joini1 ?_) | (with_reducible refine G.drew ?_) | (simp (maxSteps:=2000000) only [↓RG,RP,RB,BEq.rfl,Int.reduceEq,Int.reduceLT,Int.reduceLE,Nat.reduceEqDiff,hc]))
 refine G.sliceAll ?_
 have hlm:((l.map (·.1)).length:Int)=rows.length:=by simp [hlen]
 repeat' (first | (with_reducible refine G.joini0 ?_) | (with_reducible refine G.joini1 ?_) | (with_reducible refine G.drew ?_) | (simp (maxSteps:=2000000) only [↓RG,RP,RB,BEq.rfl,Int.reduceEq,Int.reduceLT,Int.reduceLE,Nat.reduceEqDiff,hlm]))
 refine s_attempt_Held (s:={ s with threads:=rows.length }) ?_
 rw [hS]
 repeat' (first | (with_reducible refine G.joini0 ?_) | (with_reducible refine G.joini1 ?_) | (with_reducible refine G.drew ?_) | (simp (maxSteps:=2000000) only [↓RG,RP,RB,BEq.rfl,Int.reduceEq,Int.reduceLT,Int.reduceLE,Nat.reduceEqDiff]))
 refine s_mem_New (s:=S.shape) fun mp=>?_
 generalize newMem S.shape=m0 at hK ⊢
 repeat' (first | (with_reducible refine G.joini0 ?_) | (with_reducible refine G.joini1 ?_) | (with_reducible refine G.drew ?_) | (simp (maxSteps:=2000000) only [↓RG,RP,RB,BEq.rfl,Int.reduceEq,Int.reduceLT,Int.reduceLE,Nat.reduceEqDiff]))
 refine G.box fun b=>?_
 repeat' (first | (with_reducible refine G.joini0 ?_) | (with_reducible refine G.joini1 ?_) | (with_reducible refine G.drew ?_) | (simp (maxSteps:=2000000) only [↓RG,RP,RB,BEq.rfl,Int.reduceEq,Int.reduceLT,Int.reduceLE,Nat.reduceEqDiff]))
 refine s_arena_Fresh fun u hu=>?_
 obtain⟨n,hn⟩:∃n,(held S.words 32 256).toNat=n:=⟨_,rfl⟩
 have hn1:32≤n:=by rw [←hn,hSw,held_held (by decide)];omega
 have hn2:n≤256:=by rw [←hn,hSw,held_held (by decide)];omega
 rw [hn]
 have hwl:((List.replicate n (0:Int)).set 5 14).length=n:=by simp
 repeat' (first | (with_reducible refine G.joini0 ?_) | (with_reducible refine G.joini1 ?_) | (with_reducible refine G.drew ?_) | (simp (maxSteps:=2000000) only [↓RG,RP,RB,BEq.rfl,Int.reduceEq,Int.reduceLT,Int.reduceLE,Nat.reduceEqDiff]))
 refine G.loop1 (fun k:Nat=>i64 k) (fun k=>sl wordE u ((List.replicate n 0).set 5 14)::own b (MacS.cells ⟨S,m0,[],0⟩ mp (.slice none 0 0) ⟨0,0,0,0,⟨0,false,0⟩,⟨0,false,0⟩⟩ false)::ob MemR mp (memFill m0 k)::own q (TSet.cells S)::sl progE v (l.map (·.1))::ob (BigO rowF) () l::M)
  (fun k=>k≤n) (fun k=>n-k) 0 rfl rfl (by simp) ?_
 intro k hk J hJ
 try simp (maxSteps:=2000000) only [↓RG,RP,RB,BEq.rfl,Int.reduceEq,Int.reduceLT,Int.reduceLE,Nat.reduceEqDiff,hwl]
 refine G.cond (fun h=>?_) (fun h=>?_)
 ·have hk2:k<n:=by simpa using h
  have hn3:=hJ (k+1) hk2 (by omega)
  by_cases c5:k=5
  ·have e:Elem ((List.replicate n (0:Int)).set 5 14) k 14:=⟨by rw [c5,List.getElem?_set_self (by simp;omega)]⟩
   have ek:memFill m0 k=m0∧memFill m0 (k+1)=(memDo m0 ⟨2,k,0,14,zeroLock,zeroLock⟩).1:=by subst c5;exact⟨rfl,rfl⟩
   rw [ek.2] at hn3
   rw [ek.1]
   repeat' (first | (with_reducible refine G.joini0 ?_) | (with_reducible refine G.joini1 ?_) | (with_reducible refine G.drew ?_) | (simp (maxSteps:=2000000) only [↓RG,RP,RB,BEq.rfl,Int.reduceEq,Int.reduceLT,Int.reduceLE,Nat.reduceEqDiff]))
   refine s_mem_Mem_Do (m:=m0) (o:=⟨2,k,0,14,zeroLock,zeroLock⟩) ?_
   repeat' (first | (with_reducible refine G.joini0 ?_) | (with_reducible refine G.joini1 ?_) | (with_reducible refine G.drew ?_) | (simp (maxSteps:=2000000) only [↓RG,RP,RB,BEq.rfl,Int.reduceEq,Int.reduceLT,Int.reduceLE,Nat.reduceEqDiff]))
   rw [wsucc (by omega)]
   exact hn3.sub
  ·have e:Elem ((List.replicate n (0:Int)).set 5 14) k 0:=⟨by rw [List.getElem?_set_ne (fun g=>c5 g.symm),List.getElem?_replicate,if_pos hk2]⟩
   have ef:memFill m0 (k+1)=memFill m0 k:=by
    unfold memFill
    by_cases c:k≤5
    ·rw [if_pos (by omega),if_pos c]
    ·rw [if_neg (by omega),if_neg c]
   rw [ef] at hn3
   repeat' (first | (with_reducible refine G.joini0 ?_) | (with_reducible refine G.joini1 ?_) | (with_reducible refine G.drew ?_) | (simp (maxSteps:=2000000) only [↓RG,RP,RB,BEq.rfl,Int.reduceEq,Int.reduceLT,Int.reduceLE,Nat.reduceEqDiff]))
   rw [wsucc (by omega)]
   exact hn3.sub
 ·have hk2:k=n:=by
   have:¬k<n:=by simpa using h
   omega
  have ef:memFill m0 k=memFill m0 6:=by unfold memFill;rw [if_neg (by omega),if_neg (by omega)]
  rw [ef]
  generalize memFill m0 6=m1 at hK ⊢
  repeat' (first | (with_reducible refine G.joini0 ?_) | (with_reducible refine G.joini1 ?_) | (with_reducible refine G.drew ?_) | (simp (maxSteps:=2000000) only [↓RG,RP,RB,BEq.rfl,Int.reduceEq,Int.reduceLT,Int.reduceLE,Nat.reduceEqDiff]))
  refine G.nilsl ptrE ?_
  refine Big_nil (f:=thrF) ?_
  refine G.loop1 (σ:=Nat×List (Nat×ThrS)×Value) (fun z=>i64 z.1) (fun z=>ob (BigO thrF) () z.2.1::sl ptrE z.2.2 (z.2.1.map (·.1))::sl wordE u ((List.replicate n 0).set 5 14)::own b (MacS.cells ⟨S,m1,[],0⟩ mp z.2.2 ⟨0,0,0,0,⟨0,false,0⟩,⟨0,false,0⟩⟩ false)::ob MemR mp m1::own q (TSet.cells S)::sl progE v (l.map (·.1))::ob (BigO rowF) () l::M)
   (fun z=>z.1≤l.length∧z.2.1.map (·.2)=thrRows S 0 (rows.take z.1)∧z.2.1.length=z.1∧Cells z.2.2 [z.2.2]) (fun z=>l.length-z.1) (0,[],.slice none 0 0) rfl rfl ⟨Nat.zero_le _,rfl,rfl,cells_slice⟩ ?_
  rintro⟨j,l',vt⟩ ⟨hj,hl',hl2,hvt⟩ J hJ
  simp only at hj hl' hl2 hvt hJ ⊢
  try simp (maxSteps:=2000000) only [↓RG,RP,RB,BEq.rfl,Int.reduceEq,Int.reduceLT,Int.reduceLE,Nat.reduceEqDiff]
  refine G.cond (fun h=>?_) (fun h=>?_)
  ·have hj2:j<l.length:=by simp only [decide_eq_true_eq] at h;omega
   have hj3:j<rows.length:=by omega
   have hk4:l[j]? = some l[j]:=List.getElem?_eq_getElem hj2
   have e:Elem (l.map (·.1)) j l[j].1:=⟨by rw [List.getElem?_map,hk4];rfl⟩
   have hq:l[j].2=rows[j]:=by simp only [←hl,List.getElem_map]
   have hrj:=hr _ (List.getElem_mem hj3)
   have c:(j:Int)<((l.map (·.1)).length:Int):=by simp;omega
   repeat' (first | (with_reducible refine G.joini0 ?_) | (with_reducible refine G.joini1 ?_) | (with_reducible refine G.drew ?_) | (simp (maxSteps:=2000000) only [↓RG,RP,RB,BEq.rfl,Int.reduceEq,Int.reduceLT,Int.reduceLE,Nat.reduceEqDiff,c]))
   refine G.take1 (BigO rowF) () ?_
   rw [Big_at hk4]
   refine s_thread_New (me:=(j:Int)) (s:=S) (jobs:=l[j].2) (by omega) (by rw [hSS,hSt];omega) (by rw [hq];exact hrj.1) (by rw [hq];exact hrj.2) fun tp=>?_
   repeat' (first | (with_reducible refine G.joini0 ?_) | (with_reducible refine G.joini1 ?_) | (with_reducible refine G.drew ?_) | (simp (maxSteps:=2000000) only [↓RG,RP,RB,BEq.rfl,Int.reduceEq,Int.reduceLT,Int.reduceLE,Nat.reduceEqDiff]))
   refine G.build ptrE [tp] rfl (by decide) rfl fun y hy=>?_
   repeat' (first | (with_reducible refine G.joini0 ?_) | (with_reducible refine G.joini1 ?_) | (with_reducible refine G.drew ?_) | (simp (maxSteps:=2000000) only [↓RG,RP,RB,BEq.rfl,Int.reduceEq,Int.reduceLT,Int.reduceLE,Nat.reduceEqDiff]))
   refine G.append (E:=ptrE) (xs:=l'.map (fun z:Nat×ThrS=>z.1)) (ys:=[tp]) (by simp only [List.length_map,List.length_singleton];omega) (by simp only [List.length_map,List.length_singleton,maxLen];omega) fun u5 h5=>?_
   repeat' (first | (with_reducible refine G.joini0 ?_) | (with_reducible refine G.joini1 ?_) | (with_reducible refine G.drew ?_) | (simp (maxSteps:=2000000) only [↓RG,RP,RB,BEq.rfl,Int.reduceEq,Int.reduceLT,Int.reduceLE,Nat.reduceEqDiff]))
   rw [wsucc (by omega)]
   have hn:=hJ (j+1,l'++[(tp,thrNew j S l[j].2)],u5) ⟨hj2,by rw [List.map_append,hl',List.take_succ_eq_append_getElem hj3,thrRows_snoc,hq,List.length_take];simp only [List.map_cons,List.map_nil];congr 3;omega,by simp [hl2],h5⟩ (by simp only;omega)
   simp only [List.map_append,List.map_cons,List.map_nil] at hn
   refine Big_row hk4 ?_
   refine G.pickAll (As:=[ob ThrR tp (thrNew j S l[j].2),ob (BigO thrF) () l']) ?_
   rw [show [ob ThrR tp (thrNew j S l[j].2),ob (BigO thrF) () l']=[thrF (tp,thrNew j S l[j].2),ob (BigO thrF) () l'] from rfl,List.cons_append,List.cons_append,List.nil_append,←Big_snoc]
   exact hn.sub
  ·have hj2:j=rows.length:=by
    simp only [decide_eq_false_iff_not] at h
    omega
   try simp (maxSteps:=2000000) only [↓RG,RP,RB,BEq.rfl,Int.reduceEq,Int.reduceLT,Int.reduceLE,Nat.reduceEqDiff]
   refine MacR_close b ⟨S,m1,thrRows S 0 rows,0⟩ mp vt ⟨0,0,0,0,⟨0,false,0⟩,⟨0,false,0⟩⟩ false l' rfl (by rw [hl',hj2,List.take_length]) ?_
   have h2:=hK b trivial
   rw [G_swap,Rows_open] at h2
   exact(h2 l hl).sub
end
end Go.Proofs.YtoealglbimbbmaaGreatDoor.S
