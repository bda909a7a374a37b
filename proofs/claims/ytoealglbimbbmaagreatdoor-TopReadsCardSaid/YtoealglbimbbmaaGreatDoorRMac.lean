import Derived.Test.YtoealglbimbbmaaGreatDoorRThrN
namespace Go.Proofs.YtoealglbimbbmaaGreatDoor.S
open Go Go.Proofs
set_option linter.unusedVariables false
set_option linter.unusedSimpArgs false
abbrev ld (p:Nat×cY):ax:=ob fP p.1 p.2
abbrev jL.cells (x:jL)(mp:Nat)(vt:Value)(o:rv)(did:Bool):List Value:=[i64 x.s.words,i64 x.s.stripes,i64 x.s.wide,i64 x.s.threads,u64 x.s.start,i64 x.s.spins,i64 x.s.writes,i64 x.s.fuel,ptr mp 0,vt,i64 x.picks,
 i64 o.kind,i64 o.place,u64 o.old,u64 o.word,u64 o.was.version,.bool o.was.held,i64 o.was.owner,u64 o.lock.version,.bool o.lock.held,i64 o.lock.owner,.bool did]
def lm (b:Nat)(x:jL):ax:=jX fun mp=>jX fun vt=>jX fun o:rv=>jX fun did=>jX fun l:List (Nat×cY)=>bu (fS (l.map (·.2)=x.thr)) (bu (bu (bu (own b (x.cells mp vt o did)) (ob vJ mp x.mem)) (sl iJ vt (l.map (·.1)))) (ob (co ld) () l))
section
variable {w0:bg}{L M:List ax}{K:KV}{F:World→Prop}{C:ax→List ax}{b mp:Nat}{x:jL}{v vt:Value}{o:rv}{did:Bool}
theorem mM:G w0 (ob lm b x::M) F=∀mp vt (o:rv) did (l:List (Nat×cY)),l.map (·.2)=x.thr→G w0 (own b (x.cells mp vt o did)::ob vJ mp x.mem::sl iJ vt (l.map (·.1))::ob (co ld) () l::M) F:=by
 rw [dO,lm]
 simp only [lT,dP,eS]
theorem mX (b:Nat)(x:jL)(mp:Nat)(vt:Value)(o:rv)(did:Bool)(l:List (Nat×cY)){ps:List Nat}(hps:l.map (·.1)=ps)(hl:l.map (·.2)=x.thr) [cx [own b (x.cells mp vt o did),ob vJ mp x.mem,sl iJ vt ps,ob (co ld) () l] L M](H:G w0 (ob lm b x::M) F):G w0 L F :=
 G.pickAll (As:=[own b (x.cells mp vt o did),ob vJ mp x.mem,sl iJ vt ps,ob (co ld) () l]) (by rw [mM] at H;have:=H mp vt o did l hl;rw [hps] at this;exact this)
theorem Kp {α:Type}{f:α→ax}{l:List α}{y:α}{k:Nat}(hk:k<l.length):G w0 (ob (co f) () (l.set k y)::M) F=G w0 (f y::ob (co f) () (l.eraseIdx k)::M) F:=by
 rw [jl (k:=k) (x:=y) (by rw [List.getElem?_set_self hk])]
 rw [List.eraseIdx_set_eq]
theorem Ri {l:List (Nat×cY)}{i:Nat}{t:cY}{thr:List cY}(hl:l.map (·.2)=thr)(hi:thr[i]? = some t):∃p,l[i]? = some (p,t):=by
 rw [←hl,List.getElem?_map] at hi
 cases h:l[i]? with
 | none=>rw [h] at hi;cases hi
 | some q=>rw [h] at hi;cases hi;exact⟨q.1,rfl⟩
theorem BV {l:List (Nat×cY)}{i p:Nat}{t:cY}(h:l[i]? = some (p,t)):eA (l.map (·.1)) i p:=⟨by rw [List.getElem?_map,h];rfl⟩
theorem Ki {l:List (Nat×cY)}{i p:Nat}{t:cY}(h:l[i]? = some (p,t)):i<l.length:=(List.getElem?_eq_some_iff.1 h).1
theorem KR {l:List (Nat×cY)}{i p:Nat}{t y:cY}(h:l[i]? = some (p,t)):(l.set i (p,y)).map (·.1)=l.map (·.1):=by
 refine List.ext_getElem? fun j=>?_
 rw [List.getElem?_map,List.getElem?_map,List.getElem?_set]
 by_cases c:i=j
 ·subst c;rw [if_pos rfl,if_pos (Ki h),h];rfl
 ·rw [if_neg c]
theorem Gu {l:List (Nat×cY)}{i p:Nat}{t y:cY}(h:l[i]? = some (p,t)) [cx [ob fP p y,ob (co ld) () (l.eraseIdx i)] L M](H:G w0 (ob (co ld) () (l.set i (p,y))::M) F):G w0 L F :=
 G.pickAll (As:=[ob fP p y,ob (co ld) () (l.eraseIdx i)]) (by rw [Kp (Ki h)] at H;exact H)
theorem MS {l:List (Nat×cY)}{i p:Nat}{t:cY}(h:l[i]? = some (p,t)) [cx [ob fP p t,ob (co ld) () (l.eraseIdx i)] L M](H:G w0 (ob (co ld) () l::M) F):G w0 L F :=
 G.pickAll (As:=[ob fP p t,ob (co ld) () (l.eraseIdx i)]) (by rw [jl h] at H;exact H)
theorem NQ {i k:Nat}{s ver:Int}{l:List cY}:(iV i s ver k l).length=l.length:=by unfold iV;simp
theorem pP {i k j:Nat}{s ver:Int}{l:List cY}:(iV i s ver k l)[j]? = l[j]?.map fun u=>if j<k∧j≠i then gJ u s ver else u:=by unfold iV;rw [List.getElem?_mapIdx]
theorem MB {i:Nat}{s ver:Int}{l:List cY}:iV i s ver 0 l=l:=List.ext_getElem? fun j=>by rw [pP];cases l[j]? <;> simp
theorem Qs {i:Nat}{s ver:Int}{l:List cY}:iV i s ver (i+1) l=iV i s ver i l:=List.ext_getElem? fun j=>by
 rw [pP,pP]
 congr 1
 funext u
 by_cases h:j<i
 ·rw [if_pos ⟨by omega,by omega⟩,if_pos ⟨h,by omega⟩]
 ·rw [if_neg (by omega),if_neg (by omega)]
theorem LI {i k:Nat}{s ver:Int}{l:List cY}{u:cY}(hu:l[k]? = some u)(hk:k≠i):iV i s ver (k+1) l=(iV i s ver k l).set k (gJ u s ver):=List.ext_getElem? fun j=>by
 have hlt:=(List.getElem?_eq_some_iff.1 hu).1
 rw [pP]
 by_cases h:k=j
 ·subst h
  rw [List.getElem?_set_self (by rw [NQ];exact hlt),hu]
  simp [hk]
 ·rw [List.getElem?_set_ne h,pP]
  congr 1
  funext u
  by_cases h2:j<k
  ·by_cases h3:j=i
   ·rw [if_neg (by omega),if_neg (by omega)]
   ·rw [if_pos ⟨by omega,h3⟩,if_pos ⟨h2,h3⟩]
  ·rw [if_neg (by omega),if_neg (by omega)]
theorem GO (ht:vh w0){i:Nat}{t:cY}{draw:Int}(ho:RE x i t)(hd:0≤draw)(hd2:draw≤255)[i_:al L lm b x C]
  (hK:∀sl_ ρ,dm ρ→(∀at_,t.now=some at_→uf (bk ρ at_ (az x.mem (br t).1).2) sl_)→G w0 (C (ob lm b (if (br t).2=true then kg ρ x i t draw sl_ else pD x i t))) (K (i64 0))):G w0 L (CP Tryz.prog XW [ptr b 0,i64 i,.int .u8 draw] K):=by
 refine i_.useA (A':=fun z:{ s:HE×ByteArray // dm s.1∧∀at_,t.now=some at_→uf (bk s.1 at_ (az x.mem (br t).1).2) s.2 }=>ob lm b (if (br t).2=true then kg z.1.1 x i t draw z.1.2 else pD x i t)) (F':=fun _=>K (i64 0)) (fun M hK=>?_) (fun z=>hK z.1.2 z.1.1 z.2.1 z.2.2)
 have hK:∀sl_ ρ,dm ρ→(∀at_,t.now=some at_→uf (bk ρ at_ (az x.mem (br t).1).2) sl_)→G w0 (ob lm b (if (br t).2=true then kg ρ x i t draw sl_ else pD x i t)::M) (K (i64 0)):=fun sl_ ρ hρ h=>hK ⟨(ρ,sl_),hρ,h⟩
 obtain⟨ρ0,hρ0⟩:=si
 have hsl:∃s0,∀at_,t.now=some at_→uf (bk ρ0 at_ (az x.mem (br t).1).2) s0:=by
  cases h:t.now with
  | none=>exact⟨⟨#[]⟩,fun _ g=>(by cases g)⟩
  | some q=>exact⟨TG (bk ρ0 q (az x.mem (br t).1).2),fun _ g=>(by cases g;exact KY)⟩
 obtain⟨s0,hs0⟩:=hsl
 refine tx ?_
 unfold lx
 rw [mM]
 intro mp vt o did l hl
 obtain⟨p,hp⟩:=Ri hl ho.at_
 have e:=BV hp
 have hlt:=Ki hp
 have hll:l.length=x.thr.length:=by rw [←hl];simp
 have hf:=ho.few
 have hpk:=ho.picks
 have n1:¬(i:Int)<0:=by omega
 have n2:¬((l.map (·.1)).length:Int)≤i:=by simp;omega
 have epk:IntKind.wrap .i64 (x.picks+1)=x.picks+1:=ik (by omega) (by omega)
 refine gu ?_
 refine gf (an n1 (an n2 epk)) ?_
 refine G.take1 (co ld) () ?_
 rw [jl hp]
 refine Ic (x:=t) ho.slots ho.run ?_
 unfold kg at hK
 generalize hnx:br t=nx at hK hs0
 have hear:=ho.hear
 have hpau:=ho.pauses
 rw [hnx] at hear hpau
 obtain⟨op,d⟩:=nx
 simp only at hear hpau hK
 cases d
 ·have hK:=hK s0 ρ0 hρ0 hs0
  rw [if_neg (by decide)] at hK
  refine gg ?_
  refine FD (x:=t) ho.jobs (hpau rfl) ?_
  repeat' (first | (with_reducible refine G.joini0 ?_) | (with_reducible refine G.joini1 ?_) | (with_reducible refine G.drew ?_) | (simp (maxSteps:=2000000) only [↓RG,RP,RB,BEq.rfl,Int.reduceEq,Int.reduceLT,Int.reduceLE,Nat.reduceEqDiff]))
  refine Gu (y:=gL t) hp ?_
  refine mX b (pD x i t) mp vt op false (l.set i (p,gL t)) (KR hp) (by rw [List.map_set,hl]) ?_
  exact hK.sub
 ·simp only [if_true] at hK
  repeat' (first | (with_reducible refine G.joini0 ?_) | (with_reducible refine G.joini1 ?_) | (with_reducible refine G.drew ?_) | (simp (maxSteps:=2000000) only [↓RG,RP,RB,BEq.rfl,Int.reduceEq,Int.reduceLT,Int.reduceLE,Nat.reduceEqDiff]))
  refine BF (m:=x.mem) (o:=op) ?_
  refine gg ?_
  refine HW ht (x:=t) (hear rfl) hd hd2 fun sl_ ρ hρ hsl=>?_
  have hK:=hK sl_ ρ hρ hsl
  refine gg ?_
  generalize thrTell ρ t (az x.mem op).2 draw (x.picks+1) sl_=t2 at hK
  generalize (az x.mem op).1=m2 at hK
  refine Gu (y:=t2) hp ?_
  have e2:=KR (y:=t2) hp
  have hl2:(l.set i (p,t2)).map (·.2)=x.thr.set i t2:=by rw [List.map_set,hl]
  have hq:∀k u,k≠i→(x.thr.set i t2)[k]? = some u→iz u∧∀a,u.now=some a→a.rd.length≤1000:=fun k u hk h=>by
   rw [List.getElem?_set_ne (fun g=>hk g.symm)] at h
   exact ho.others k u h hk
  have hll2:(l.set i (p,t2)).length=l.length:=by simp
  generalize l.set i (p,t2)=l2 at e2 hl2 hll2
  have hfin:∀(l3:List (Nat×cY)) (thr3:List cY),l3.map (·.1)=l.map (·.1)→l3.map (·.2)=thr3→G w0 (ob lm b { x with mem:=m2,thr:=thr3,picks:=x.picks+1 }::M) (K (i64 0))→G w0 (ob (co ld) () l3::own b (jL.cells { x with mem:=m2,picks:=x.picks+1 } mp vt op true)::ob vJ mp m2::sl iJ vt (l.map (·.1))::M) (K (i64 0)):=fun l3 thr3 g1 g2 g3=>by
   refine mX b { x with mem:=m2,thr:=thr3,picks:=x.picks+1 } mp vt op true l3 g1 g2 ?_
   exact g3.sub
  by_cases c5:op.kind=5
  ·rw [if_pos c5] at hK
   have hlen3:(x.thr.set i t2).length=l.length:=by simp [hll]
   rw [←hll] at hK
   generalize x.thr.set i t2=thr2 at hK hl2 hq hlen3
   refine dN (eq_true c5) ?_
   refine G.loop1 (σ:=Nat×List (Nat×cY)) (fun z=>i64 z.1) (fun z=>ob (co ld) () z.2::own b (jL.cells { x with mem:=m2,picks:=x.picks+1 } mp vt op true)::ob vJ mp m2::sl iJ vt (l.map (·.1))::M)
    (fun z=>z.1≤l.length∧z.2.map (·.1)=l.map (·.1)∧z.2.map (·.2)=iV i op.place op.lock.version z.1 thr2) (fun z=>l.length-z.1) (0,l2) rfl rfl ⟨Nat.zero_le _,e2,by rw [MB];exact hl2⟩ ?_
   rintro⟨k,l3⟩ ⟨hk,g1,g2⟩ J hJ
   simp only at hk g1 g2 hJ ⊢
   have hlen:l3.length=l.length:=by have:=congrArg List.length g1;simpa using this
   refine gr ?_
   refine G.cond (fun h=>?_) (fun h=>?_)
   ·have hk2:k<l.length:=by simpa using h
    have hk3:k<l3.length:=by omega
    rcases hu:l3[k] with ⟨pk,u⟩
    have hk4:l3[k]? = some (pk,u):=by rw [List.getElem?_eq_getElem hk3,hu]
    have ek:eA (l.map (·.1)) k pk:=by rw [←g1];exact BV hk4
    have hu2:thr2[k]? = some u:=by
     have h1:(l3.map (·.2))[k]? = some u:=by rw [List.getElem?_map,hk4];rfl
     rw [g2,pP] at h1
     cases ht:thr2[k]? with
     | none=>rw [ht] at h1;cases h1
     | some u2=>rw [ht] at h1;simpa using h1
    by_cases ci:k=i
    ·subst ci
     have hn:=hJ (k+1,l3) ⟨hk2,g1,by rw [g2,Qs]⟩ (by simp only;omega)
     refine gg ?_
     rw [dt (by omega)]
     exact hn.sub
    ·have ci2:¬(k:Int)=i:=by omega
     obtain⟨j1,j2⟩:=hq k _ ci hu2
     have hn:=hJ (k+1,l3.set k (pk,gJ u op.place op.lock.version)) ⟨hk2,by rw [KR hk4,g1],by rw [List.map_set,g2,LI hu2 ci]⟩ (by simp only;omega)
     repeat' (first | (with_reducible refine G.joini0 ?_) | (with_reducible refine G.joini1 ?_) | (with_reducible refine G.drew ?_) | (simp (maxSteps:=2000000) only [↓RG,RP,RB,BEq.rfl,Int.reduceEq,Int.reduceLT,Int.reduceLE,Nat.reduceEqDiff,ci2]))
     refine G.take1 (co ld) () ?_
     rw [jl hk4]
     refine Is (x:=u) j1 j2 ?_
     rw [dt (by omega)]
     refine Gu (y:=gJ u op.place op.lock.version) hk4 ?_
     exact hn.sub
   ·have hk2:k=l.length:=by
     have:¬k<l.length:=by simpa using h
     omega
    refine gr ?_
    refine G.sub (hfin l3 (iV i op.place op.lock.version l.length thr2) g1 (by rw [g2,hk2]) hK)
  ·rw [if_neg c5] at hK
   refine dN c5 ?_
   exact(hfin l2 _ e2 hl2 hK).sub
theorem Bo [i:al L lm b x C](hK:G w0 L (K (i64 x.thr.length))):G w0 L (CP Tryz.prog ZK [ptr b 0] K):=by
 refine i.ro (fun M hK=>?_) hK
 refine qY ?_
 unfold jD
 rw [mM] at *
 intro mp vt o did l hl
 have hK:=hK mp vt o did l hl
 have e:((l.map (·.1)).length:Int)=x.thr.length:=by rw [←hl];simp
 refine dN e ?_
 exact hK
theorem uG (hl:x.mem.w.length≤1000000)[i:al L lm b x C](hK:∀u,av u [u]→G w0 (sl de u x.mem.w::L) (K u)):G w0 L (CP Tryz.prog Yp [ptr b 0] K):=by
 refine i.roN (fun M hK=>?_) hK
 refine tg ?_
 unfold kK
 rw [mM]
 intro mp vt o did l h
 refine gr ?_
 refine ER (m:=x.mem) hl fun u hu=>?_
 refine mX b x mp vt o did l rfl h ?_
 exact(hK u hu).sub
def ua:List cY→Bool
 | []=>true
 | t::l=>(decide (t.state=6) || decide (t.state=4)) && ua l
theorem EQ (hf:x.thr.length≤4)[i:al L lm b x C](hK:G w0 L (K (.bool (ua x.thr)))):G w0 L (CP Tryz.prog ZL [ptr b 0] K):=by
 refine i.ro (fun M hK=>?_) hK
 refine sy ?_
 unfold kO
 rw [mM] at *
 intro mp vt o did l hl
 have hK:=hK mp vt o did l hl
 have hll:l.length=x.thr.length:=by rw [←hl];simp
 refine gr ?_
 refine G.loop1 (fun k:Nat=>i64 k) (fun k=>own b (x.cells mp vt o did)::ob vJ mp x.mem::sl iJ vt (l.map (·.1))::ob (co ld) () l::M) (fun k=>k≤l.length∧ua x.thr=ua (x.thr.drop k)) (fun k=>l.length-k) 0 rfl rfl (by simp) ?_
 intro k ⟨hk,hr⟩ J hJ
 refine gr ?_
 refine G.cond (fun h=>?_) (fun h=>?_)
 ·have hk2:k<l.length:=by simpa using h
  rcases hu:l[k] with ⟨pk,u⟩
  have hk4:l[k]? = some (pk,u):=by rw [List.getElem?_eq_getElem hk2,hu]
  have ek:eA (l.map (·.1)) k pk:=BV hk4
  have hd:x.thr.drop k=u::x.thr.drop (k+1):=by
   have ht:x.thr[k]? = some u:=by rw [←hl,List.getElem?_map,hk4];rfl
   obtain⟨g1,g2⟩:=List.getElem?_eq_some_iff.1 ht
   rw [List.drop_eq_getElem_cons g1,g2]
  rw [hd,show ua (u::x.thr.drop (k+1))=((decide (u.state=6) || decide (u.state=4)) && ua (x.thr.drop (k+1))) from rfl] at hr
  refine gu ?_
  refine gr ?_
  refine G.take1 (co ld) () ?_
  rw [jl hk4]
  refine FJ (x:=u) ?_
  rw [←jl hk4]
  by_cases c6:u.state=6
  ·have hn:=hJ (k+1) ⟨hk2,by rw [hr];simp [c6]⟩ (by omega)
   refine dN c6 ?_
   rw [dt (by omega)]
   exact hn.sub
  ·by_cases c4:u.state=4
   ·have hn:=hJ (k+1) ⟨hk2,by rw [hr];simp [c4]⟩ (by omega)
    refine dN (an c6 c4) ?_
    rw [dt (by omega)]
    exact hn.sub
   ·have e:ua x.thr=false:=by rw [hr];simp [c6,c4]
    rw [e] at hK
    refine dN (an c6 c4) ?_
    exact hK.sub
 ·have hk2:k=x.thr.length:=by
   have:¬k<l.length:=by simpa using h
   omega
  have e:ua x.thr=true:=by rw [hr,hk2,List.drop_length];rfl
  rw [e] at hK
  refine gr ?_
  exact hK
theorem Cp {i:Nat}{t:cY}(hi:x.thr[i]? = some t)(hf:x.thr.length≤4)(hl:t.res.length≤1000000)[i_:al L lm b x C](hK:∀u,av u [u]→G w0 (sl gR u t.res::L) (K u)):G w0 L (CP Tryz.prog ZM [ptr b 0,i64 i] K):=by
 refine i_.roN (fun M hK=>?_) hK
 refine q8 ?_
 unfold jy
 refine v8 ?_
 unfold oh
 rw [mM]
 intro mp vt o did l h
 obtain⟨p,hp⟩:=Ri h hi
 have e:=BV hp
 have hlt:=Ki hp
 have n1:¬(i:Int)<0:=by omega
 have n2:¬((l.map (·.1)).length:Int)≤i:=by simp;omega
 refine gu ?_
 refine gf (an n1 n2) ?_
 refine G.take1 (co ld) () ?_
 rw [jl hp]
 refine C6 (x:=t) hl fun u hu=>?_
 refine MS hp ?_
 refine mX b x mp vt o did l rfl h ?_
 exact(hK u hu).sub
theorem NP {α:Type}{f:α→ax}{l l2:List α}:G w0 (ob (co f) () (l++l2)::M) F=G w0 (ob (co f) () l::ob (co f) () l2::M) F:=by
 rw [dO,dO,dO,←dP]
 unfold co
 rw [List.map_append,tG]
theorem qd (ht:vh w0)(hs:∀t∈x.thr,t.past.length≤1000000∧(t.state=1→∃a,t.now=some a∧DL a))(hf:x.thr.length≤4)[i:al L lm b x C](hK:∀u,av u [u]→G w0 (ob jo u (wK x)::L) (K u)):G w0 L (CP Tryz.prog Yq [ptr b 0] K):=by
 refine i.roN (fun M hK=>?_) hK
 refine qw ?_
 unfold jp
 rw [mM]
 intro mp vt o did l hl
 have hll:l.length=x.thr.length:=by rw [←hl];simp
 have htl:∀t∈x.thr,(dJ t).length≤1000001:=fun t h=>by
  have h1:=(hs t h).1
  by_cases c:t.state=1
  ·obtain⟨a,ha,_⟩:=(hs t h).2 c
   have e:dJ t=t.past++(if a.begun=true then [fD a t.born 0] else []):=by unfold dJ;rw [if_pos c,ha]
   rw [e,List.length_append]
   split <;> simp <;> omega
  ·have e:dJ t=t.past:=by unfold dJ;rw [if_neg c,List.append_nil]
   rw [e];omega
 refine gr ?_
 refine G.nilsl eE ?_
 refine ll (f:=dI) ?_
 refine G.loop2 (σ:=Nat×List fG×Value) (fun z=>z.2.2) (fun z=>i64 z.1) (fun z=>ob (co dI) () z.2.1::sl eE z.2.2 (z.2.1.map (·.1))::own b (x.cells mp vt o did)::ob vJ mp x.mem::sl iJ vt (l.map (·.1))::ob (co ld) () l::M)
  (fun z=>z.1≤l.length∧z.2.1.map (·.2.1)=(x.thr.take z.1).flatMap dJ∧(∀p∈z.2.1,tq p)∧z.2.1.length≤z.1*1000001∧av z.2.2 [z.2.2]) (fun z=>l.length-z.1) (0,[],.slice none 0 0) rfl rfl rfl ⟨Nat.zero_le _,rfl,by simp,Nat.zero_le _,bf⟩ ?_
 rintro⟨k,ys,vy⟩ ⟨hk,hy,hy3,hy2,hvy⟩ J hJ
 simp only at hk hy hy2 hy3 hvy hJ ⊢
 refine gr ?_
 refine G.cond (fun h=>?_) (fun h=>?_)
 ·have hk2:k<l.length:=by simpa using h
  rcases hu:l[k] with ⟨pk,u⟩
  have hk4:l[k]? = some (pk,u):=by rw [List.getElem?_eq_getElem hk2,hu]
  have ek:eA (l.map (·.1)) k pk:=BV hk4
  have ht2:x.thr[k]? = some u:=by rw [←hl,List.getElem?_map,hk4];rfl
  obtain⟨g1,g2⟩:=List.getElem?_eq_some_iff.1 ht2
  have hmem:=List.mem_of_getElem? ht2
  obtain⟨hs1,hs2⟩:=hs u hmem
  have hlu:=htl u hmem
  refine gr ?_
  refine G.take1 (co ld) () ?_
  rw [jl hk4]
  refine BO ht (x:=u) hs1 hs2 fun w hw=>?_
  rw [kG]
  intro zs hzs
  refine MS hk4 ?_
  have hzl:zs.length=(dJ u).length:=by rw [←hzs.1];simp
  refine G.append (E:=eE) (xs:=ys.map fun z:fG=>z.1) (ys:=zs.map fun z:fG=>z.1) (by simp only [List.length_map];omega) (by simp only [List.length_map,maxLen];omega) fun u5 h5=>?_
  refine gr ?_
  rw [dt (by omega)]
  have hn:=hJ (k+1,ys++zs,u5) ⟨hk2,by rw [List.map_append,hy,hzs.1,List.take_succ_eq_append_getElem (by omega),List.flatMap_append,g2];simp,fun p hp=>by
   rcases List.mem_append.1 hp with hp | hp
   ·exact hy3 p hp
   ·exact hzs.2 p hp,by simp only [List.length_append];omega,h5⟩ (by simp only;omega)
  simp only [List.map_append] at hn
  refine G.pickAll (As:=[ob (co dI) () ys,ob (co dI) () zs]) ?_
  simp only [List.cons_append,List.nil_append]
  rw [←NP]
  exact hn.sub
 ·have hk2:k=x.thr.length:=by
   have:¬k<l.length:=by simpa using h
   omega
  refine gr ?_
  refine yl vy ys ⟨by rw [hy,hk2,List.take_length],hy3⟩ ?_
  refine mX b x mp vt o did l rfl hl ?_
  exact(hK vy hvy).sub
abbrev qX (p:im×List (List dD)):ax:=ob gY p.1.v p.2
def IL (v:Value)(rows:List (List (List dD))):ax:=jX fun l:List (im×List (List dD))=>bu (fS (l.map (·.2)=rows)) (bu (sl dY v (l.map (·.1))) (ob (co qX) () l))
theorem DH {rows:List (List (List dD))}:G w0 (ob IL v rows::M) F=∀l:List (im×List (List dD)),l.map (·.2)=rows→G w0 (sl dY v (l.map (·.1))::ob (co qX) () l::M) F:=by
 rw [dO,IL]
 simp only [lT,dP,eS]
theorem II {n:Int}(hK:∀u,av u [u]→G w0 (sl de u ((List.replicate (held n 32 256).toNat 0).set 5 14)::L) (K u)):G w0 L (CP Tryz.prog ZN [i64 n] K):=by
 refine IF ?_
 unfold zn
 have e:(if (if (256:Int)<n then 256 else n) > 32 then (if (256:Int)<n then 256 else n) else 32)=held n 32 256:=jt (by decide)
 have hh:=eQ (n:=n) (lo:=32) (hi:=256) (by decide)
 refine dN e ?_
 obtain⟨j,hj⟩:∃j:Nat,held n 32 256=j:=⟨(held n 32 256).toNat,by omega⟩
 have h1:32≤j:=by omega
 have h2:j≤256:=by omega
 rw [hj] at hK ⊢
 simp only [Int.toNat_natCast] at hK
 refine G.make de 0 rfl (by simp only [maxLen];omega) (by omega) fun u hu=>?_
 have e5:eA (List.replicate j (0:Int)) 5 0:=⟨by rw [List.getElem?_replicate,if_pos (by omega)]⟩
 refine gr ?_
 exact hK u hu
theorem tC {s:dQ}{r:List (List dD)}:∀{l:List (List (List dD))}{i:Nat},iY s i (l++[r])=iY s i l++[kU ((i+l.length:Nat):Int) s r]
 | [],i=>rfl
 | a::l,i=>by
  rw [List.cons_append,iY,iY,tC,List.cons_append]
  congr 4
  simp only [List.length_cons];omega
theorem TQ {l:List (im×List (List dD))}{i:Nat}{q:im×List (List dD)}(h:l[i]? = some q) [cx [ob gY q.1.v q.2,ob (co qX) () (l.eraseIdx i)] L M](H:G w0 (ob (co qX) () l::M) F):G w0 L F :=
 G.pickAll (As:=[ob gY q.1.v q.2,ob (co qX) () (l.eraseIdx i)]) (by rw [jl h] at H;exact H)
theorem Pz (v:Value)(l:List (im×List (List dD))){ps:List im}{rs:List (List (List dD))}(hp:l.map (·.1)=ps)(hr:l.map (·.2)=rs) [cx [sl dY v ps,ob (co qX) () l] L M](H:G w0 (ob IL v rs::M) F):G w0 L F :=
 G.pickAll (As:=[sl dY v ps,ob (co qX) () l]) (by rw [DH] at H;have:=H l hr;rw [hp] at this;exact this)
theorem Fc (v:Value)(l:List (im×List dD)){ps:List im}{rs:List (List dD)}(hp:l.map (·.1)=ps)(hr:l.map (·.2)=rs) [cx [sl dY v ps,ob (co qo) () l] L M](H:G w0 (ob gY v rs::M) F):G w0 L F :=
 G.pickAll (As:=[sl dY v ps,ob (co qo) () l]) (by rw [pR] at H;have:=H l hr;rw [hp] at this;exact this)
def oO:List (List (List dD))→List (List (List dD))
 | []=>[[]]
 | r::l=>r::l
theorem yd {l:List (List (List dD))}(h:0<l.length):oO l=l:=by cases l with | nil=>cases h | cons r l=>rfl
theorem zo {s:dQ}{rows:List (List (List dD))}(h4:rows.length≤4)(hr:∀r∈rows,r.length≤6∧∀p∈r,ir p)[i:al L IL v rows C](hv:av v [v])
  (hK:∀b,G w0 (ob lm b (dM s (oO rows))::L) (K (ptr b 0))):G w0 L (CP Tryz.prog Yr [.agg (dQ.cells s).toArray,v] K):=by
 refine i.roN (P:=fun _=>True) (N:=fun b=>ob lm b (dM s (oO rows))) (F':=fun b=>K (ptr b 0)) (fun M hK=>?_) (fun b _=>hK b)
 refine H6 ?_
 unfold zv
 obtain⟨S,hS⟩:∃S,dv { s with threads:=(rows.length:Int) }=S:=⟨_,rfl⟩
 have hSS:dv S=S:=by rw [←hS];exact CH _
 have hw:=eQ (n:=s.words) (lo:=32) (hi:=256) (by decide)
 have hSw:S.words=held s.words 32 256:=by rw [←hS];rfl
 obtain⟨R,hR⟩:∃R,oO rows=R:=⟨_,rfl⟩
 have hRc:(R=rows∧0<rows.length)∨(rows=[]∧R=[[]]):=by
  rw [←hR]
  cases rows with
  | nil=>exact .inr ⟨rfl,rfl⟩
  | cons r l=>exact .inl ⟨rfl,by simp⟩
 have hSR:dv { s with threads:=(R.length:Int) }=S:=by
  rw [←hS]
  rcases hRc with ⟨e,_⟩ | ⟨e1,e2⟩
  ·rw [e]
  ·rw [e1,e2];rfl
 have hR4:R.length≤4:=by rcases hRc with ⟨e,_⟩ | ⟨e1,e2⟩;rw [e];exact h4;rw [e2];decide
 have hSt:S.threads=R.length:=by
  rw [←hSR]
  show held (R.length:Int) 1 4=_
  have:0<R.length:=by rcases hRc with ⟨e,h⟩ | ⟨e1,e2⟩;rw [e];exact h;rw [e2];decide
  unfold held;rw [if_neg (by omega),if_neg (by omega)]
 rw [hR] at hK
 simp only [dM,dC,hSR] at hK
 rw [DH]
 intro l hl
 have hlen:l.length=rows.length:=by rw [←hl];simp
 refine G.box fun q=>?_
 have hc:(if ((4:Int)<((l.map (·.1)).length:Int)) then 4 else ((l.map (·.1)).length:Int))=((l.map (·.1)).length:Int):=by rw [if_neg (by simp;omega)]
 refine gf hc ?_
 refine G.sliceAll ?_
 have hlm:((l.map (·.1)).length:Int)=rows.length:=by simp [hlen]
 refine gf hlm ?_
 refine qn (s:={ s with threads:=rows.length }) ?_
 rw [hS]
 repeat' (first | (with_reducible refine G.joini0 ?_) | (with_reducible refine G.joini1 ?_) | (with_reducible refine G.drew ?_) | (simp (maxSteps:=2000000) only [↓RG,RP,RB,BEq.rfl,Int.reduceEq,Int.reduceLT,Int.reduceLE,Nat.reduceEqDiff]))
 refine P8 (s:=S.shape) fun mp=>?_
 generalize t9 S.shape=m0 at hK ⊢
 refine gg ?_
 refine G.box fun b=>?_
 refine gg ?_
 refine II fun u hu=>?_
 obtain⟨n,hn⟩:∃n,(held S.words 32 256).toNat=n:=⟨_,rfl⟩
 have hn1:32≤n:=by rw [←hn,hSw,fo (by decide)];omega
 have hn2:n≤256:=by rw [←hn,hSw,fo (by decide)];omega
 rw [hn]
 have hwl:((List.replicate n (0:Int)).set 5 14).length=n:=by simp
 refine gg ?_
 refine G.loop1 (fun k:Nat=>i64 k) (fun k=>sl de u ((List.replicate n 0).set 5 14)::own b (jL.cells ⟨S,m0,[],0⟩ mp (.slice none 0 0) ⟨0,0,0,0,⟨0,false,0⟩,⟨0,false,0⟩⟩ false)::ob vJ mp (km m0 k)::own q (dQ.cells S)::sl dY v (l.map (·.1))::ob (co qX) () l::M)
  (fun k=>k≤n) (fun k=>n-k) 0 rfl rfl (by simp) ?_
 intro k hk J hJ
 refine dN hwl ?_
 refine G.cond (fun h=>?_) (fun h=>?_)
 ·have hk2:k<n:=by simpa using h
  have hn3:=hJ (k+1) hk2 (by omega)
  by_cases c5:k=5
  ·have e:eA ((List.replicate n (0:Int)).set 5 14) k 14:=⟨by rw [c5,List.getElem?_set_self (by simp;omega)]⟩
   have ek:km m0 k=m0∧km m0 (k+1)=(az m0 ⟨2,k,0,14,ai,ai⟩).1:=by subst c5;exact⟨rfl,rfl⟩
   rw [ek.2] at hn3
   rw [ek.1]
   repeat' (first | (with_reducible refine G.joini0 ?_) | (with_reducible refine G.joini1 ?_) | (with_reducible refine G.drew ?_) | (simp (maxSteps:=2000000) only [↓RG,RP,RB,BEq.rfl,Int.reduceEq,Int.reduceLT,Int.reduceLE,Nat.reduceEqDiff]))
   refine BF (m:=m0) (o:=⟨2,k,0,14,ai,ai⟩) ?_
   repeat' (first | (with_reducible refine G.joini0 ?_) | (with_reducible refine G.joini1 ?_) | (with_reducible refine G.drew ?_) | (simp (maxSteps:=2000000) only [↓RG,RP,RB,BEq.rfl,Int.reduceEq,Int.reduceLT,Int.reduceLE,Nat.reduceEqDiff]))
   rw [dt (by omega)]
   exact hn3.sub
  ·have e:eA ((List.replicate n (0:Int)).set 5 14) k 0:=⟨by rw [List.getElem?_set_ne (fun g=>c5 g.symm),List.getElem?_replicate,if_pos hk2]⟩
   have ef:km m0 (k+1)=km m0 k:=by
    unfold km
    by_cases c:k≤5
    ·rw [if_pos (by omega),if_pos c]
    ·rw [if_neg (by omega),if_neg c]
   rw [ef] at hn3
   refine gg ?_
   rw [dt (by omega)]
   exact hn3.sub
 ·have hk2:k=n:=by
   have:¬k<n:=by simpa using h
   omega
  have ef:km m0 k=km m0 6:=by unfold km;rw [if_neg (by omega),if_neg (by omega)]
  rw [ef]
  generalize km m0 6=m1 at hK ⊢
  refine gg ?_
  refine G.nilsl iJ ?_
  refine ll (f:=ld) ?_
  refine G.loop1 (σ:=Nat×List (Nat×cY)×Value) (fun z=>i64 z.1) (fun z=>ob (co ld) () z.2.1::sl iJ z.2.2 (z.2.1.map (·.1))::sl de u ((List.replicate n 0).set 5 14)::own b (jL.cells ⟨S,m1,[],0⟩ mp z.2.2 ⟨0,0,0,0,⟨0,false,0⟩,⟨0,false,0⟩⟩ false)::ob vJ mp m1::own q (dQ.cells S)::sl dY v (l.map (·.1))::ob (co qX) () l::M)
   (fun z=>z.1≤R.length∧z.2.1.map (·.2)=iY S 0 (R.take z.1)∧z.2.1.length=z.1∧av z.2.2 [z.2.2]) (fun z=>R.length-z.1) (0,[],.slice none 0 0) rfl rfl ⟨Nat.zero_le _,rfl,rfl,bf⟩ ?_
  rintro⟨j,l',vt⟩ ⟨hj,hl',hl2,hvt⟩ J hJ
  simp only at hj hl' hl2 hvt hJ ⊢
  refine gr ?_
  refine G.cond (fun h=>?_) (fun h=>?_)
  ·have hj2:j<R.length:=by simp only [decide_eq_true_eq] at h;omega
   by_cases hj3:j<rows.length
   ·have hj0:0<rows.length:=by omega
    have hRr:R=rows:=by rw [←hR];exact yd hj0
    have hk4:l[j]? = some l[j]:=List.getElem?_eq_getElem (by omega)
    have e:eA (l.map (·.1)) j l[j].1:=⟨by rw [List.getElem?_map,hk4];rfl⟩
    have hq0:l[j].2=rows[j]:=by simp only [←hl,List.getElem_map]
    have hq:R[j]=l[j].2:=by rw [hq0];simp only [hRr]
    have hrj:=hr _ (List.getElem_mem hj3)
    have c:(j:Int)<((l.map (·.1)).length:Int):=by simp;omega
    repeat' (first | (with_reducible refine G.joini0 ?_) | (with_reducible refine G.joini1 ?_) | (with_reducible refine G.drew ?_) | (simp (maxSteps:=2000000) only [↓RG,RP,RB,BEq.rfl,Int.reduceEq,Int.reduceLT,Int.reduceLE,Nat.reduceEqDiff,c]))
    refine G.take1 (co qX) () ?_
    rw [jl hk4]
    refine Cm (me:=(j:Int)) (s:=S) (jobs:=l[j].2) (by omega) (by rw [hSS,hSt];omega) (by rw [hq0];exact hrj.1) (by rw [hq0];exact hrj.2) fun tp=>?_
    refine gg ?_
    refine G.build iJ [tp] rfl (by decide) rfl fun y hy=>?_
    refine gg ?_
    refine G.append (E:=iJ) (xs:=l'.map (fun z:Nat×cY=>z.1)) (ys:=[tp]) (by simp only [List.length_map,List.length_singleton];omega) (by simp only [List.length_map,List.length_singleton,maxLen];omega) fun u5 h5=>?_
    refine gg ?_
    rw [dt (by omega)]
    have hn:=hJ (j+1,l'++[(tp,kU j S l[j].2)],u5) ⟨hj2,by rw [List.map_append,hl',List.take_succ_eq_append_getElem hj2,tC,hq,List.length_take];simp only [List.map_cons,List.map_nil];congr 3;omega,by simp [hl2],h5⟩ (by simp only;omega)
    simp only [List.map_append,List.map_cons,List.map_nil] at hn
    refine TQ hk4 ?_
    refine G.pickAll (As:=[ob fP tp (kU j S l[j].2),ob (co ld) () l']) ?_
    rw [show [ob fP tp (kU j S l[j].2),ob (co ld) () l']=[ld (tp,kU j S l[j].2),ob (co ld) () l'] from rfl,List.cons_append,List.cons_append,List.nil_append,←gy]
    exact hn.sub
   ·obtain⟨e1,e2⟩:rows=[]∧R=[[]]:=hRc.resolve_left fun g=>hj3 (by rw [←g.1];exact hj2)
    have hq:R[j]=[]:=by
     have:∀p∈R,p=[]:=by rw [e2];simp
     exact this _ (List.getElem_mem _)
    have c:¬(j:Int)<((l.map (·.1)).length:Int):=by simp;omega
    repeat' (first | (with_reducible refine G.joini0 ?_) | (with_reducible refine G.joini1 ?_) | (with_reducible refine G.drew ?_) | (simp (maxSteps:=2000000) only [↓RG,RP,RB,BEq.rfl,Int.reduceEq,Int.reduceLT,Int.reduceLE,Nat.reduceEqDiff,c]))
    refine G.nilsl dY ?_
    refine ll (f:=qo) ?_
    refine Fc (.slice none 0 0) [] (ps:=[]) (rs:=[]) rfl rfl ?_
    refine Cm (me:=(j:Int)) (s:=S) (jobs:=[]) (by omega) (by rw [hSS,hSt];omega) (by decide) (by simp) fun tp=>?_
    refine gg ?_
    refine G.build iJ [tp] rfl (by decide) rfl fun y hy=>?_
    refine gg ?_
    refine G.append (E:=iJ) (xs:=l'.map (fun z:Nat×cY=>z.1)) (ys:=[tp]) (by simp only [List.length_map,List.length_singleton];omega) (by simp only [List.length_map,List.length_singleton,maxLen];omega) fun u5 h5=>?_
    refine gg ?_
    rw [dt (by omega)]
    have hn:=hJ (j+1,l'++[(tp,kU j S [])],u5) ⟨hj2,by rw [List.map_append,hl',List.take_succ_eq_append_getElem hj2,tC,hq,List.length_take];simp only [List.map_cons,List.map_nil];congr 3;omega,by simp [hl2],h5⟩ (by simp only;omega)
    simp only [List.map_append,List.map_cons,List.map_nil] at hn
    refine G.pickAll (As:=[ob fP tp (kU j S []),ob (co ld) () l']) ?_
    rw [show [ob fP tp (kU j S []),ob (co ld) () l']=[ld (tp,kU j S []),ob (co ld) () l'] from rfl,List.cons_append,List.cons_append,List.nil_append,←gy]
    exact hn.sub
  ·have hj2:j=R.length:=by
    simp only [decide_eq_false_iff_not] at h
    omega
   refine gr ?_
   refine mX b ⟨S,m1,iY S 0 R,0⟩ mp vt ⟨0,0,0,0,⟨0,false,0⟩,⟨0,false,0⟩⟩ false l' rfl (by rw [hl',hj2,List.take_length]) ?_
   have h2:=hK b trivial
   rw [eN,DH] at h2
   exact(h2 l hl).sub
end
end Go.Proofs.YtoealglbimbbmaaGreatDoor.S
