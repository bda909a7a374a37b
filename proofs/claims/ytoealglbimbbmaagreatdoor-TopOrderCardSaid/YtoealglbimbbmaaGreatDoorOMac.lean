import Derived.Test.YtoealglbimbbmaaGreatDoorOThrN
namespace Go.Proofs.YtoealglbimbbmaaGreatDoor.S
open Go Go.Proofs
set_option linter.unusedVariables false
set_option linter.unusedSimpArgs false
abbrev lP (p:Nat×co):ay:=ob gD p.1 p.2
abbrev kI.cells (x:kI)(mp:Nat)(vt:Value)(o:rv)(did:Bool):List Value:=[i64 x.s.words,i64 x.s.stripes,i64 x.s.wide,i64 x.s.threads,u64 x.s.start,i64 x.s.spins,i64 x.s.writes,i64 x.s.fuel,ptr mp 0,vt,i64 x.picks,
 i64 o.kind,i64 o.place,u64 o.old,u64 o.word,u64 o.was.version,.bool o.was.held,i64 o.was.owner,u64 o.lock.version,.bool o.lock.held,i64 o.lock.owner,.bool did]
def nC (b:Nat)(x:kI):ay:=mW fun mp=>mW fun vt=>mW fun o:rv=>mW fun did=>mW fun l:List (Nat×co)=>bk (ie (l.map (·.2)=x.thr)) (bk (bk (bk (own b (x.cells mp vt o did)) (ob u4 mp x.mem)) (sl gX vt (l.map (·.1)))) (ob (cg lP) () l))
section
variable {w0:bh}{L M:List ay}{K:KV}{F:World→Prop}{C:ay→List ay}{b mp:Nat}{x:kI}{v vt:Value}{o:rv}{did:Bool}
theorem nr:G w0 (ob nC b x::M) F=∀mp vt (o:rv) did (l:List (Nat×co)),l.map (·.2)=x.thr→G w0 (own b (x.cells mp vt o did)::ob u4 mp x.mem::sl gX vt (l.map (·.1))::ob (cg lP) () l::M) F:=by
 rw [eZ,nC]
 simp only [qv,fa,fU]
theorem nk (b:Nat)(x:kI)(mp:Nat)(vt:Value)(o:rv)(did:Bool)(l:List (Nat×co)){ps:List Nat}(hps:l.map (·.1)=ps)(hl:l.map (·.2)=x.thr) [ez [own b (x.cells mp vt o did),ob u4 mp x.mem,sl gX vt ps,ob (cg lP) () l] L M](H:G w0 (ob nC b x::M) F):G w0 L F :=
 G.pickAll (As:=[own b (x.cells mp vt o did),ob u4 mp x.mem,sl gX vt ps,ob (cg lP) () l]) (by rw [nr] at H;have:=H mp vt o did l hl;rw [hps] at this;exact this)
theorem Rc {α:Type}{f:α→ay}{l:List α}{y:α}{k:Nat}(hk:k<l.length):G w0 (ob (cg f) () (l.set k y)::M) F=G w0 (f y::ob (cg f) () (l.eraseIdx k)::M) F:=by
 rw [kX (k:=k) (x:=y) (by rw [List.getElem?_set_self hk])]
 rw [List.eraseIdx_set_eq]
theorem Qt {l:List (Nat×co)}{i:Nat}{t:co}{thr:List co}(hl:l.map (·.2)=thr)(hi:thr[i]? = some t):∃p,l[i]? = some (p,t):=by
 rw [←hl,List.getElem?_map] at hi
 cases h:l[i]? with
 | none=>rw [h] at hi;cases hi
 | some q=>rw [h] at hi;cases hi;exact⟨q.1,rfl⟩
theorem AQ {l:List (Nat×co)}{i p:Nat}{t:co}(h:l[i]? = some (p,t)):eU (l.map (·.1)) i p:=⟨by rw [List.getElem?_map,h];rfl⟩
theorem Ig {l:List (Nat×co)}{i p:Nat}{t:co}(h:l[i]? = some (p,t)):i<l.length:=(List.getElem?_eq_some_iff.1 h).1
theorem I0 {l:List (Nat×co)}{i p:Nat}{t y:co}(h:l[i]? = some (p,t)):(l.set i (p,y)).map (·.1)=l.map (·.1):=by
 refine List.ext_getElem? fun j=>?_
 rw [List.getElem?_map,List.getElem?_map,List.getElem?_set]
 by_cases c:i=j
 ·subst c;rw [if_pos rfl,if_pos (Ig h),h];rfl
 ·rw [if_neg c]
theorem Fx {l:List (Nat×co)}{i p:Nat}{t y:co}(h:l[i]? = some (p,t)) [ez [ob gD p y,ob (cg lP) () (l.eraseIdx i)] L M](H:G w0 (ob (cg lP) () (l.set i (p,y))::M) F):G w0 L F :=
 G.pickAll (As:=[ob gD p y,ob (cg lP) () (l.eraseIdx i)]) (by rw [Rc (Ig h)] at H;exact H)
theorem KP {l:List (Nat×co)}{i p:Nat}{t:co}(h:l[i]? = some (p,t)) [ez [ob gD p t,ob (cg lP) () (l.eraseIdx i)] L M](H:G w0 (ob (cg lP) () l::M) F):G w0 L F :=
 G.pickAll (As:=[ob gD p t,ob (cg lP) () (l.eraseIdx i)]) (by rw [kX h] at H;exact H)
theorem Ll {i k:Nat}{s ver:Int}{l:List co}:(jg i s ver k l).length=l.length:=by unfold jg;simp
theorem qd {i k j:Nat}{s ver:Int}{l:List co}:(jg i s ver k l)[j]? = l[j]?.map fun u=>if j<k∧j≠i then im u s ver else u:=by unfold jg;rw [List.getElem?_mapIdx]
theorem Kp {i:Nat}{s ver:Int}{l:List co}:jg i s ver 0 l=l:=List.ext_getElem? fun j=>by rw [qd];cases l[j]? <;> simp
theorem OY {i:Nat}{s ver:Int}{l:List co}:jg i s ver (i+1) l=jg i s ver i l:=List.ext_getElem? fun j=>by
 rw [qd,qd]
 congr 1
 funext u
 by_cases h:j<i
 ·rw [if_pos ⟨by omega,by omega⟩,if_pos ⟨h,by omega⟩]
 ·rw [if_neg (by omega),if_neg (by omega)]
theorem Kk {i k:Nat}{s ver:Int}{l:List co}{u:co}(hu:l[k]? = some u)(hk:k≠i):jg i s ver (k+1) l=(jg i s ver k l).set k (im u s ver):=List.ext_getElem? fun j=>by
 have hlt:=(List.getElem?_eq_some_iff.1 hu).1
 rw [qd]
 by_cases h:k=j
 ·subst h
  rw [List.getElem?_set_self (by rw [Ll];exact hlt),hu]
  simp [hk]
 ·rw [List.getElem?_set_ne h,qd]
  congr 1
  funext u
  by_cases h2:j<k
  ·by_cases h3:j=i
   ·rw [if_neg (by omega),if_neg (by omega)]
   ·rw [if_pos ⟨by omega,h3⟩,if_pos ⟨h2,h3⟩]
  ·rw [if_neg (by omega),if_neg (by omega)]
theorem FT (ht:uR w0){i:Nat}{t:co}{draw:Int}(ho:PK x i t)(hd:0≤draw)(hd2:draw≤255)[i_:aq L nC b x C]
  (hK:∀sl_,(∀at_,t.now=some at_→uS (bm at_ (az x.mem (bj t).1).2) sl_)→G w0 (C (ob nC b (if (bj t).2=true then lW x i t draw sl_ else ru x i t))) (K (i64 0))):G w0 L (CP Tryz.prog VE [ptr b 0,i64 i,.int .u8 draw] K):=by
 refine i_.useA (A':=fun z:{ s // ∀at_,t.now=some at_→uS (bm at_ (az x.mem (bj t).1).2) s }=>ob nC b (if (bj t).2=true then lW x i t draw z.1 else ru x i t)) (F':=fun _=>K (i64 0)) (fun M hK=>?_) (fun z=>hK z.1 z.2)
 have hK:=fun sl_ (h:∀at_,t.now=some at_→uS (bm at_ (az x.mem (bj t).1).2) sl_)=>hK ⟨sl_,h⟩
 simp only at hK
 have hsl:∃s0,∀at_,t.now=some at_→uS (bm at_ (az x.mem (bj t).1).2) s0:=by
  cases h:t.now with
  | none=>exact⟨⟨#[]⟩,fun _ g=>(by cases g)⟩
  | some q=>exact⟨Q5 (bm q (az x.mem (bj t).1).2),fun _ g=>(by cases g;exact MX)⟩
 obtain⟨s0,hs0⟩:=hsl
 refine tT ?_
 unfold lV
 rw [nr]
 intro mp vt o did l hl
 obtain⟨p,hp⟩:=Qt hl ho.at_
 have e:=AQ hp
 have hlt:=Ig hp
 have hll:l.length=x.thr.length:=by rw [←hl];simp
 have hf:=ho.few
 have hpk:=ho.picks
 have n1:¬(i:Int)<0:=by omega
 have n2:¬((l.map (·.1)).length:Int)≤i:=by simp;omega
 have epk:IntKind.wrap .i64 (x.picks+1)=x.picks+1:=iy (by omega) (by omega)
 refine gu ?_
 refine gf (an n1 (an n2 epk)) ?_
 refine G.take1 (cg lP) () ?_
 rw [kX hp]
 refine GZ (x:=t) ho.slots ho.run ?_
 unfold lW at hK
 generalize hnx:bj t=nx at hK hs0
 have hear:=ho.hear
 have hpau:=ho.pauses
 rw [hnx] at hear hpau
 obtain⟨op,d⟩:=nx
 simp only at hear hpau hK
 cases d
 ·have hK:=hK s0 hs0
  rw [if_neg (by decide)] at hK
  refine gg ?_
  refine F3 (x:=t) ho.jobs (hpau rfl) ?_
  repeat' (first | (with_reducible refine G.joini0 ?_) | (with_reducible refine G.joini1 ?_) | (with_reducible refine G.drew ?_) | (simp (maxSteps:=2000000) only [↓RG,RP,RB,BEq.rfl,Int.reduceEq,Int.reduceLT,Int.reduceLE,Nat.reduceEqDiff]))
  refine Fx (y:=io t) hp ?_
  refine nk b (ru x i t) mp vt op false (l.set i (p,io t)) (I0 hp) (by rw [List.map_set,hl]) ?_
  exact hK.sub
 ·simp only [if_true] at hK
  repeat' (first | (with_reducible refine G.joini0 ?_) | (with_reducible refine G.joini1 ?_) | (with_reducible refine G.drew ?_) | (simp (maxSteps:=2000000) only [↓RG,RP,RB,BEq.rfl,Int.reduceEq,Int.reduceLT,Int.reduceLE,Nat.reduceEqDiff]))
  refine Bn (m:=x.mem) (o:=op) ?_
  refine gg ?_
  refine GP ht (x:=t) (hear rfl) hd hd2 fun sl_ hsl=>?_
  have hK:=hK sl_ hsl
  refine gg ?_
  generalize thrTell t (az x.mem op).2 draw (x.picks+1) sl_=t2 at hK
  generalize (az x.mem op).1=m2 at hK
  refine Fx (y:=t2) hp ?_
  have e2:=I0 (y:=t2) hp
  have hl2:(l.set i (p,t2)).map (·.2)=x.thr.set i t2:=by rw [List.map_set,hl]
  have hq:∀k u,k≠i→(x.thr.set i t2)[k]? = some u→iQ u∧∀a,u.now=some a→a.rd.length≤1000:=fun k u hk h=>by
   rw [List.getElem?_set_ne (fun g=>hk g.symm)] at h
   exact ho.others k u h hk
  have hll2:(l.set i (p,t2)).length=l.length:=by simp
  generalize l.set i (p,t2)=l2 at e2 hl2 hll2
  have hfin:∀(l3:List (Nat×co)) (thr3:List co),l3.map (·.1)=l.map (·.1)→l3.map (·.2)=thr3→G w0 (ob nC b { x with mem:=m2,thr:=thr3,picks:=x.picks+1 }::M) (K (i64 0))→G w0 (ob (cg lP) () l3::own b (kI.cells { x with mem:=m2,picks:=x.picks+1 } mp vt op true)::ob u4 mp m2::sl gX vt (l.map (·.1))::M) (K (i64 0)):=fun l3 thr3 g1 g2 g3=>by
   refine nk b { x with mem:=m2,thr:=thr3,picks:=x.picks+1 } mp vt op true l3 g1 g2 ?_
   exact g3.sub
  by_cases c5:op.kind=5
  ·rw [if_pos c5] at hK
   have hlen3:(x.thr.set i t2).length=l.length:=by simp [hll]
   rw [←hll] at hK
   generalize x.thr.set i t2=thr2 at hK hl2 hq hlen3
   refine eY (eq_true c5) ?_
   refine G.loop1 (σ:=Nat×List (Nat×co)) (fun z=>i64 z.1) (fun z=>ob (cg lP) () z.2::own b (kI.cells { x with mem:=m2,picks:=x.picks+1 } mp vt op true)::ob u4 mp m2::sl gX vt (l.map (·.1))::M)
    (fun z=>z.1≤l.length∧z.2.map (·.1)=l.map (·.1)∧z.2.map (·.2)=jg i op.place op.lock.version z.1 thr2) (fun z=>l.length-z.1) (0,l2) rfl rfl ⟨Nat.zero_le _,e2,by rw [Kp];exact hl2⟩ ?_
   rintro⟨k,l3⟩ ⟨hk,g1,g2⟩ J hJ
   simp only at hk g1 g2 hJ ⊢
   have hlen:l3.length=l.length:=by have:=congrArg List.length g1;simpa using this
   refine gr ?_
   refine G.cond (fun h=>?_) (fun h=>?_)
   ·have hk2:k<l.length:=by simpa using h
    have hk3:k<l3.length:=by omega
    rcases hu:l3[k] with ⟨pk,u⟩
    have hk4:l3[k]? = some (pk,u):=by rw [List.getElem?_eq_getElem hk3,hu]
    have ek:eU (l.map (·.1)) k pk:=by rw [←g1];exact AQ hk4
    have hu2:thr2[k]? = some u:=by
     have h1:(l3.map (·.2))[k]? = some u:=by rw [List.getElem?_map,hk4];rfl
     rw [g2,qd] at h1
     cases ht:thr2[k]? with
     | none=>rw [ht] at h1;cases h1
     | some u2=>rw [ht] at h1;simpa using h1
    by_cases ci:k=i
    ·subst ci
     have hn:=hJ (k+1,l3) ⟨hk2,g1,by rw [g2,OY]⟩ (by simp only;omega)
     refine gg ?_
     rw [di (by omega)]
     exact hn.sub
    ·have ci2:¬(k:Int)=i:=by omega
     obtain⟨j1,j2⟩:=hq k _ ci hu2
     have hn:=hJ (k+1,l3.set k (pk,im u op.place op.lock.version)) ⟨hk2,by rw [I0 hk4,g1],by rw [List.map_set,g2,Kk hu2 ci]⟩ (by simp only;omega)
     repeat' (first | (with_reducible refine G.joini0 ?_) | (with_reducible refine G.joini1 ?_) | (with_reducible refine G.drew ?_) | (simp (maxSteps:=2000000) only [↓RG,RP,RB,BEq.rfl,Int.reduceEq,Int.reduceLT,Int.reduceLE,Nat.reduceEqDiff,ci2]))
     refine G.take1 (cg lP) () ?_
     rw [kX hk4]
     refine GI (x:=u) j1 j2 ?_
     rw [di (by omega)]
     refine Fx (y:=im u op.place op.lock.version) hk4 ?_
     exact hn.sub
   ·have hk2:k=l.length:=by
     have:¬k<l.length:=by simpa using h
     omega
    refine gr ?_
    refine G.sub (hfin l3 (jg i op.place op.lock.version l.length thr2) g1 (by rw [g2,hk2]) hK)
  ·rw [if_neg c5] at hK
   refine eY c5 ?_
   exact(hfin l2 _ e2 hl2 hK).sub
theorem BX [i:aq L nC b x C](hK:G w0 L (K (i64 x.thr.length))):G w0 L (CP Tryz.prog XC [ptr b 0] K):=by
 refine i.ro (fun M hK=>?_) hK
 refine q9 ?_
 unfold jZ
 rw [nr] at *
 intro mp vt o did l hl
 have hK:=hK mp vt o did l hl
 have e:((l.map (·.1)).length:Int)=x.thr.length:=by rw [←hl];simp
 refine eY e ?_
 exact hK
theorem uq (hl:x.mem.w.length≤1000000)[i:aq L nC b x C](hK:∀u,ar u [u]→G w0 (sl cx u x.mem.w::L) (K u)):G w0 L (CP Tryz.prog Wc [ptr b 0] K):=by
 refine i.roN (fun M hK=>?_) hK
 refine sZ ?_
 unfold lq
 rw [nr]
 intro mp vt o did l h
 refine gr ?_
 refine DN (m:=x.mem) hl fun u hu=>?_
 refine nk b x mp vt o did l rfl h ?_
 exact(hK u hu).sub
def tR:List co→Bool
 | []=>true
 | t::l=>(decide (t.state=6) || decide (t.state=4)) && tR l
theorem DB (hf:x.thr.length≤4)[i:aq L nC b x C](hK:G w0 L (K (.bool (tR x.thr)))):G w0 L (CP Tryz.prog XD [ptr b 0] K):=by
 refine i.ro (fun M hK=>?_) hK
 refine tf ?_
 unfold lB
 rw [nr] at *
 intro mp vt o did l hl
 have hK:=hK mp vt o did l hl
 have hll:l.length=x.thr.length:=by rw [←hl];simp
 refine gr ?_
 refine G.loop1 (fun k:Nat=>i64 k) (fun k=>own b (x.cells mp vt o did)::ob u4 mp x.mem::sl gX vt (l.map (·.1))::ob (cg lP) () l::M) (fun k=>k≤l.length∧tR x.thr=tR (x.thr.drop k)) (fun k=>l.length-k) 0 rfl rfl (by simp) ?_
 intro k ⟨hk,hr⟩ J hJ
 refine gr ?_
 refine G.cond (fun h=>?_) (fun h=>?_)
 ·have hk2:k<l.length:=by simpa using h
  rcases hu:l[k] with ⟨pk,u⟩
  have hk4:l[k]? = some (pk,u):=by rw [List.getElem?_eq_getElem hk2,hu]
  have ek:eU (l.map (·.1)) k pk:=AQ hk4
  have hd:x.thr.drop k=u::x.thr.drop (k+1):=by
   have ht:x.thr[k]? = some u:=by rw [←hl,List.getElem?_map,hk4];rfl
   obtain⟨g1,g2⟩:=List.getElem?_eq_some_iff.1 ht
   rw [List.drop_eq_getElem_cons g1,g2]
  rw [hd,show tR (u::x.thr.drop (k+1))=((decide (u.state=6) || decide (u.state=4)) && tR (x.thr.drop (k+1))) from rfl] at hr
  refine gu ?_
  refine gr ?_
  refine G.take1 (cg lP) () ?_
  rw [kX hk4]
  refine Fj (x:=u) ?_
  rw [←kX hk4]
  by_cases c6:u.state=6
  ·have hn:=hJ (k+1) ⟨hk2,by rw [hr];simp [c6]⟩ (by omega)
   refine eY c6 ?_
   rw [di (by omega)]
   exact hn.sub
  ·by_cases c4:u.state=4
   ·have hn:=hJ (k+1) ⟨hk2,by rw [hr];simp [c4]⟩ (by omega)
    refine eY (an c6 c4) ?_
    rw [di (by omega)]
    exact hn.sub
   ·have e:tR x.thr=false:=by rw [hr];simp [c6,c4]
    rw [e] at hK
    refine eY (an c6 c4) ?_
    exact hK.sub
 ·have hk2:k=x.thr.length:=by
   have:¬k<l.length:=by simpa using h
   omega
  have e:tR x.thr=true:=by rw [hr,hk2,List.drop_length];rfl
  rw [e] at hK
  refine gr ?_
  exact hK
theorem Bo {i:Nat}{t:co}(hi:x.thr[i]? = some t)(hf:x.thr.length≤4)(hl:t.res.length≤1000000)[i_:aq L nC b x C](hK:∀u,ar u [u]→G w0 (sl iw u t.res::L) (K u)):G w0 L (CP Tryz.prog XA [ptr b 0,i64 i] K):=by
 refine i_.roN (fun M hK=>?_) hK
 refine rg ?_
 unfold jV
 refine wJ ?_
 unfold oN
 rw [nr]
 intro mp vt o did l h
 obtain⟨p,hp⟩:=Qt h hi
 have e:=AQ hp
 have hlt:=Ig hp
 have n1:¬(i:Int)<0:=by omega
 have n2:¬((l.map (·.1)).length:Int)≤i:=by simp;omega
 refine gu ?_
 refine gf (an n1 n2) ?_
 refine G.take1 (cg lP) () ?_
 rw [kX hp]
 refine Cc (x:=t) hl fun u hu=>?_
 refine KP hp ?_
 refine nk b x mp vt o did l rfl h ?_
 exact(hK u hu).sub
theorem LZ {α:Type}{f:α→ay}{l l2:List α}:G w0 (ob (cg f) () (l++l2)::M) F=G w0 (ob (cg f) () l::ob (cg f) () l2::M) F:=by
 rw [eZ,eZ,eZ,←fa]
 unfold cg
 rw [List.map_append,tZ]
theorem ql (ht:uR w0)(hs:∀t∈x.thr,t.past.length≤1000000∧(t.state=1→∃a,t.now=some a∧CY a))(hf:x.thr.length≤4)[i:aq L nC b x C](hK:∀u,ar u [u]→G w0 (ob jy u (vP x)::L) (K u)):G w0 L (CP Tryz.prog We [ptr b 0] K):=by
 refine i.roN (fun M hK=>?_) hK
 refine qp ?_
 unfold jB
 rw [nr]
 intro mp vt o did l hl
 have hll:l.length=x.thr.length:=by rw [←hl];simp
 have htl:∀t∈x.thr,(em t).length≤1000001:=fun t h=>by
  have h1:=(hs t h).1
  by_cases c:t.state=1
  ·obtain⟨a,ha,_⟩:=(hs t h).2 c
   have e:em t=t.past++(if a.begun=true then [gh a t.born 0] else []):=by unfold em;rw [if_pos c,ha]
   rw [e,List.length_append]
   split <;> simp <;> omega
  ·have e:em t=t.past:=by unfold em;rw [if_neg c,List.append_nil]
   rw [e];omega
 refine gr ?_
 refine G.nilsl fg ?_
 refine nX (f:=eu) ?_
 refine G.loop2 (σ:=Nat×List gd×Value) (fun z=>z.2.2) (fun z=>i64 z.1) (fun z=>ob (cg eu) () z.2.1::sl fg z.2.2 (z.2.1.map (·.1))::own b (x.cells mp vt o did)::ob u4 mp x.mem::sl gX vt (l.map (·.1))::ob (cg lP) () l::M)
  (fun z=>z.1≤l.length∧z.2.1.map (·.2.1)=(x.thr.take z.1).flatMap em∧(∀p∈z.2.1,tm p)∧z.2.1.length≤z.1*1000001∧ar z.2.2 [z.2.2]) (fun z=>l.length-z.1) (0,[],.slice none 0 0) rfl rfl rfl ⟨Nat.zero_le _,rfl,by simp,Nat.zero_le _,be⟩ ?_
 rintro⟨k,ys,vy⟩ ⟨hk,hy,hy3,hy2,hvy⟩ J hJ
 simp only at hk hy hy2 hy3 hvy hJ ⊢
 refine gr ?_
 refine G.cond (fun h=>?_) (fun h=>?_)
 ·have hk2:k<l.length:=by simpa using h
  rcases hu:l[k] with ⟨pk,u⟩
  have hk4:l[k]? = some (pk,u):=by rw [List.getElem?_eq_getElem hk2,hu]
  have ek:eU (l.map (·.1)) k pk:=AQ hk4
  have ht2:x.thr[k]? = some u:=by rw [←hl,List.getElem?_map,hk4];rfl
  obtain⟨g1,g2⟩:=List.getElem?_eq_some_iff.1 ht2
  have hmem:=List.mem_of_getElem? ht2
  obtain⟨hs1,hs2⟩:=hs u hmem
  have hlu:=htl u hmem
  refine gr ?_
  refine G.take1 (cg lP) () ?_
  rw [kX hk4]
  refine AY ht (x:=u) hs1 hs2 fun w hw=>?_
  rw [lz]
  intro zs hzs
  refine KP hk4 ?_
  have hzl:zs.length=(em u).length:=by rw [←hzs.1];simp
  refine G.append (E:=fg) (xs:=ys.map fun z:gd=>z.1) (ys:=zs.map fun z:gd=>z.1) (by simp only [List.length_map];omega) (by simp only [List.length_map,maxLen];omega) fun u5 h5=>?_
  refine gr ?_
  rw [di (by omega)]
  have hn:=hJ (k+1,ys++zs,u5) ⟨hk2,by rw [List.map_append,hy,hzs.1,List.take_succ_eq_append_getElem (by omega),List.flatMap_append,g2];simp,fun p hp=>by
   rcases List.mem_append.1 hp with hp | hp
   ·exact hy3 p hp
   ·exact hzs.2 p hp,by simp only [List.length_append];omega,h5⟩ (by simp only;omega)
  simp only [List.map_append] at hn
  refine G.pickAll (As:=[ob (cg eu) () ys,ob (cg eu) () zs]) ?_
  simp only [List.cons_append,List.nil_append]
  rw [←LZ]
  exact hn.sub
 ·have hk2:k=x.thr.length:=by
   have:¬k<l.length:=by simpa using h
   omega
  refine gr ?_
  refine xK vy ys ⟨by rw [hy,hk2,List.take_length],hy3⟩ ?_
  refine nk b x mp vt o did l rfl hl ?_
  exact(hK vy hvy).sub
abbrev tM (p:lD×List (List bu)):ay:=ob i7 p.1.v p.2
def HS (v:Value)(rows:List (List (List bu))):ay:=mW fun l:List (lD×List (List bu))=>bk (ie (l.map (·.2)=rows)) (bk (sl fj v (l.map (·.1))) (ob (cg tM) () l))
theorem CJ {rows:List (List (List bu))}:G w0 (ob HS v rows::M) F=∀l:List (lD×List (List bu)),l.map (·.2)=rows→G w0 (sl fj v (l.map (·.1))::ob (cg tM) () l::M) F:=by
 rw [eZ,HS]
 simp only [qv,fa,fU]
theorem Gz {n:Int}(hK:∀u,ar u [u]→G w0 (sl cx u ((List.replicate (held n 32 256).toNat 0).set 5 14)::L) (K u)):G w0 L (CP Tryz.prog XF [i64 n] K):=by
 refine Gq ?_
 unfold yW
 have e:(if (if (256:Int)<n then 256 else n) > 32 then (if (256:Int)<n then 256 else n) else 32)=held n 32 256:=jK (by decide)
 have hh:=ft (n:=n) (lo:=32) (hi:=256) (by decide)
 refine eY e ?_
 obtain⟨j,hj⟩:∃j:Nat,held n 32 256=j:=⟨(held n 32 256).toNat,by omega⟩
 have h1:32≤j:=by omega
 have h2:j≤256:=by omega
 rw [hj] at hK ⊢
 simp only [Int.toNat_natCast] at hK
 refine G.make cx 0 rfl (by simp only [maxLen];omega) (by omega) fun u hu=>?_
 have e5:eU (List.replicate j (0:Int)) 5 0:=⟨by rw [List.getElem?_replicate,if_pos (by omega)]⟩
 refine gr ?_
 exact hK u hu
theorem tI {s:eO}{r:List (List bu)}:∀{l:List (List (List bu))}{i:Nat},jh s i (l++[r])=jh s i l++[mr ((i+l.length:Nat):Int) s r]
 | [],i=>rfl
 | a::l,i=>by
  rw [List.cons_append,jh,jh,tI,List.cons_append]
  congr 4
  simp only [List.length_cons];omega
theorem Ro {l:List (lD×List (List bu))}{i:Nat}{q:lD×List (List bu)}(h:l[i]? = some q) [ez [ob i7 q.1.v q.2,ob (cg tM) () (l.eraseIdx i)] L M](H:G w0 (ob (cg tM) () l::M) F):G w0 L F :=
 G.pickAll (As:=[ob i7 q.1.v q.2,ob (cg tM) () (l.eraseIdx i)]) (by rw [kX h] at H;exact H)
theorem Ic (v:Value)(l:List (lD×List (List bu))){ps:List lD}{rs:List (List (List bu))}(hp:l.map (·.1)=ps)(hr:l.map (·.2)=rs) [ez [sl fj v ps,ob (cg tM) () l] L M](H:G w0 (ob HS v rs::M) F):G w0 L F :=
 G.pickAll (As:=[sl fj v ps,ob (cg tM) () l]) (by rw [CJ] at H;have:=H l hr;rw [hp] at this;exact this)
theorem Jg (v:Value)(l:List (lD×List bu)){ps:List lD}{rs:List (List bu)}(hp:l.map (·.1)=ps)(hr:l.map (·.2)=rs) [ez [sl fj v ps,ob (cg pm) () l] L M](H:G w0 (ob i7 v rs::M) F):G w0 L F :=
 G.pickAll (As:=[sl fj v ps,ob (cg pm) () l]) (by rw [tb] at H;have:=H l hr;rw [hp] at this;exact this)
def nG:List (List (List bu))→List (List (List bu))
 | []=>[[]]
 | r::l=>r::l
theorem Hm {l:List (List (List bu))}(h:0<l.length):nG l=l:=by cases l with | nil=>cases h | cons r l=>rfl
theorem zi {s:eO}{rows:List (List (List bu))}(h4:rows.length≤4)(hr:∀r∈rows,r.length≤6∧∀p∈r,p.length≤1000)[i:aq L HS v rows C](hv:ar v [v])
  (hK:∀b,G w0 (ob nC b (eH s (nG rows))::L) (K (ptr b 0))):G w0 L (CP Tryz.prog Wb [.agg (eO.cells s).toArray,v] K):=by
 refine i.roN (P:=fun _=>True) (N:=fun b=>ob nC b (eH s (nG rows))) (F':=fun b=>K (ptr b 0)) (fun M hK=>?_) (fun b _=>hK b)
 refine GS ?_
 unfold yE
 obtain⟨S,hS⟩:∃S,dj { s with threads:=(rows.length:Int) }=S:=⟨_,rfl⟩
 have hSS:dj S=S:=by rw [←hS];exact Bf _
 have hw:=ft (n:=s.words) (lo:=32) (hi:=256) (by decide)
 have hSw:S.words=held s.words 32 256:=by rw [←hS];rfl
 obtain⟨R,hR⟩:∃R,nG rows=R:=⟨_,rfl⟩
 have hRc:(R=rows∧0<rows.length)∨(rows=[]∧R=[[]]):=by
  rw [←hR]
  cases rows with
  | nil=>exact .inr ⟨rfl,rfl⟩
  | cons r l=>exact .inl ⟨rfl,by simp⟩
 have hSR:dj { s with threads:=(R.length:Int) }=S:=by
  rw [←hS]
  rcases hRc with ⟨e,_⟩ | ⟨e1,e2⟩
  ·rw [e]
  ·rw [e1,e2];rfl
 have hR4:R.length≤4:=by rcases hRc with ⟨e,_⟩ | ⟨e1,e2⟩;rw [e];exact h4;rw [e2];decide
 have hSt:S.threads=R.length:=by
  rw [←hSR]
  show held (R.length:Int) 1 4=_
  have:0<R.length:=by rcases hRc with ⟨e,h⟩ | ⟨e1,e2⟩;rw [e];exact h;rw [e2];decide
  unfold held;rw [if_neg (by omega),if_neg (by omega)]
 rw [hR] at hK
 simp only [eH,dp,hSR] at hK
 rw [CJ]
 intro l hl
 have hlen:l.length=rows.length:=by rw [←hl];simp
 refine G.box fun q=>?_
 have hc:(if ((4:Int)<((l.map (·.1)).length:Int)) then 4 else ((l.map (·.1)).length:Int))=((l.map (·.1)).length:Int):=by rw [if_neg (by simp;omega)]
 repeat' (first | (with_reducible refine G.joini0 ?_) | (with_reducible refine G.joini1 ?_) | (with_reducible refine G.drew ?_) | (simp (maxSteps:=2000000) only [↓RG,RP,RB,BEq.rfl,Int.reduceEq,Int.reduceLT,Int.reduceLE,Nat.reduceEqDiff,hc]))
 refine G.sliceAll ?_
 have hlm:((l.map (·.1)).length:Int)=rows.length:=by simp [hlen]
 repeat' (first | (with_reducible refine G.joini0 ?_) | (with_reducible refine G.joini1 ?_) | (with_reducible refine G.drew ?_) | (simp (maxSteps:=2000000) only [↓RG,RP,RB,BEq.rfl,Int.reduceEq,Int.reduceLT,Int.reduceLE,Nat.reduceEqDiff,hlm]))
 refine qg (s:={ s with threads:=rows.length }) ?_
 rw [hS]
 repeat' (first | (with_reducible refine G.joini0 ?_) | (with_reducible refine G.joini1 ?_) | (with_reducible refine G.drew ?_) | (simp (maxSteps:=2000000) only [↓RG,RP,RB,BEq.rfl,Int.reduceEq,Int.reduceLT,Int.reduceLE,Nat.reduceEqDiff]))
 refine Oi (s:=S.shape) fun mp=>?_
 generalize t6 S.shape=m0 at hK ⊢
 repeat' (first | (with_reducible refine G.joini0 ?_) | (with_reducible refine G.joini1 ?_) | (with_reducible refine G.drew ?_) | (simp (maxSteps:=2000000) only [↓RG,RP,RB,BEq.rfl,Int.reduceEq,Int.reduceLT,Int.reduceLE,Nat.reduceEqDiff]))
 refine G.box fun b=>?_
 repeat' (first | (with_reducible refine G.joini0 ?_) | (with_reducible refine G.joini1 ?_) | (with_reducible refine G.drew ?_) | (simp (maxSteps:=2000000) only [↓RG,RP,RB,BEq.rfl,Int.reduceEq,Int.reduceLT,Int.reduceLE,Nat.reduceEqDiff]))
 refine Gz fun u hu=>?_
 obtain⟨n,hn⟩:∃n,(held S.words 32 256).toNat=n:=⟨_,rfl⟩
 have hn1:32≤n:=by rw [←hn,hSw,fK (by decide)];omega
 have hn2:n≤256:=by rw [←hn,hSw,fK (by decide)];omega
 rw [hn]
 have hwl:((List.replicate n (0:Int)).set 5 14).length=n:=by simp
 repeat' (first | (with_reducible refine G.joini0 ?_) | (with_reducible refine G.joini1 ?_) | (with_reducible refine G.drew ?_) | (simp (maxSteps:=2000000) only [↓RG,RP,RB,BEq.rfl,Int.reduceEq,Int.reduceLT,Int.reduceLE,Nat.reduceEqDiff]))
 refine G.loop1 (fun k:Nat=>i64 k) (fun k=>sl cx u ((List.replicate n 0).set 5 14)::own b (kI.cells ⟨S,m0,[],0⟩ mp (.slice none 0 0) ⟨0,0,0,0,⟨0,false,0⟩,⟨0,false,0⟩⟩ false)::ob u4 mp (kN m0 k)::own q (eO.cells S)::sl fj v (l.map (·.1))::ob (cg tM) () l::M)
  (fun k=>k≤n) (fun k=>n-k) 0 rfl rfl (by simp) ?_
 intro k hk J hJ
 try simp (maxSteps:=2000000) only [↓RG,RP,RB,BEq.rfl,Int.reduceEq,Int.reduceLT,Int.reduceLE,Nat.reduceEqDiff,hwl]
 refine G.cond (fun h=>?_) (fun h=>?_)
 ·have hk2:k<n:=by simpa using h
  have hn3:=hJ (k+1) hk2 (by omega)
  by_cases c5:k=5
  ·have e:eU ((List.replicate n (0:Int)).set 5 14) k 14:=⟨by rw [c5,List.getElem?_set_self (by simp;omega)]⟩
   have ek:kN m0 k=m0∧kN m0 (k+1)=(az m0 ⟨2,k,0,14,ah,ah⟩).1:=by subst c5;exact⟨rfl,rfl⟩
   rw [ek.2] at hn3
   rw [ek.1]
   repeat' (first | (with_reducible refine G.joini0 ?_) | (with_reducible refine G.joini1 ?_) | (with_reducible refine G.drew ?_) | (simp (maxSteps:=2000000) only [↓RG,RP,RB,BEq.rfl,Int.reduceEq,Int.reduceLT,Int.reduceLE,Nat.reduceEqDiff]))
   refine Bn (m:=m0) (o:=⟨2,k,0,14,ah,ah⟩) ?_
   repeat' (first | (with_reducible refine G.joini0 ?_) | (with_reducible refine G.joini1 ?_) | (with_reducible refine G.drew ?_) | (simp (maxSteps:=2000000) only [↓RG,RP,RB,BEq.rfl,Int.reduceEq,Int.reduceLT,Int.reduceLE,Nat.reduceEqDiff]))
   rw [di (by omega)]
   exact hn3.sub
  ·have e:eU ((List.replicate n (0:Int)).set 5 14) k 0:=⟨by rw [List.getElem?_set_ne (fun g=>c5 g.symm),List.getElem?_replicate,if_pos hk2]⟩
   have ef:kN m0 (k+1)=kN m0 k:=by
    unfold kN
    by_cases c:k≤5
    ·rw [if_pos (by omega),if_pos c]
    ·rw [if_neg (by omega),if_neg c]
   rw [ef] at hn3
   repeat' (first | (with_reducible refine G.joini0 ?_) | (with_reducible refine G.joini1 ?_) | (with_reducible refine G.drew ?_) | (simp (maxSteps:=2000000) only [↓RG,RP,RB,BEq.rfl,Int.reduceEq,Int.reduceLT,Int.reduceLE,Nat.reduceEqDiff]))
   rw [di (by omega)]
   exact hn3.sub
 ·have hk2:k=n:=by
   have:¬k<n:=by simpa using h
   omega
  have ef:kN m0 k=kN m0 6:=by unfold kN;rw [if_neg (by omega),if_neg (by omega)]
  rw [ef]
  generalize kN m0 6=m1 at hK ⊢
  repeat' (first | (with_reducible refine G.joini0 ?_) | (with_reducible refine G.joini1 ?_) | (with_reducible refine G.drew ?_) | (simp (maxSteps:=2000000) only [↓RG,RP,RB,BEq.rfl,Int.reduceEq,Int.reduceLT,Int.reduceLE,Nat.reduceEqDiff]))
  refine G.nilsl gX ?_
  refine nX (f:=lP) ?_
  refine G.loop1 (σ:=Nat×List (Nat×co)×Value) (fun z=>i64 z.1) (fun z=>ob (cg lP) () z.2.1::sl gX z.2.2 (z.2.1.map (·.1))::sl cx u ((List.replicate n 0).set 5 14)::own b (kI.cells ⟨S,m1,[],0⟩ mp z.2.2 ⟨0,0,0,0,⟨0,false,0⟩,⟨0,false,0⟩⟩ false)::ob u4 mp m1::own q (eO.cells S)::sl fj v (l.map (·.1))::ob (cg tM) () l::M)
   (fun z=>z.1≤R.length∧z.2.1.map (·.2)=jh S 0 (R.take z.1)∧z.2.1.length=z.1∧ar z.2.2 [z.2.2]) (fun z=>R.length-z.1) (0,[],.slice none 0 0) rfl rfl ⟨Nat.zero_le _,rfl,rfl,be⟩ ?_
  rintro⟨j,l',vt⟩ ⟨hj,hl',hl2,hvt⟩ J hJ
  simp only at hj hl' hl2 hvt hJ ⊢
  try simp (maxSteps:=2000000) only [↓RG,RP,RB,BEq.rfl,Int.reduceEq,Int.reduceLT,Int.reduceLE,Nat.reduceEqDiff]
  refine G.cond (fun h=>?_) (fun h=>?_)
  ·have hj2:j<R.length:=by simp only [decide_eq_true_eq] at h;omega
   by_cases hj3:j<rows.length
   ·have hj0:0<rows.length:=by omega
    have hRr:R=rows:=by rw [←hR];exact Hm hj0
    have hk4:l[j]? = some l[j]:=List.getElem?_eq_getElem (by omega)
    have e:eU (l.map (·.1)) j l[j].1:=⟨by rw [List.getElem?_map,hk4];rfl⟩
    have hq0:l[j].2=rows[j]:=by simp only [←hl,List.getElem_map]
    have hq:R[j]=l[j].2:=by rw [hq0];simp only [hRr]
    have hrj:=hr _ (List.getElem_mem hj3)
    have c:(j:Int)<((l.map (·.1)).length:Int):=by simp;omega
    repeat' (first | (with_reducible refine G.joini0 ?_) | (with_reducible refine G.joini1 ?_) | (with_reducible refine G.drew ?_) | (simp (maxSteps:=2000000) only [↓RG,RP,RB,BEq.rfl,Int.reduceEq,Int.reduceLT,Int.reduceLE,Nat.reduceEqDiff,c]))
    refine G.take1 (cg tM) () ?_
    rw [kX hk4]
    refine Bw (me:=(j:Int)) (s:=S) (jobs:=l[j].2) (by omega) (by rw [hSS,hSt];omega) (by rw [hq0];exact hrj.1) (by rw [hq0];exact hrj.2) fun tp=>?_
    repeat' (first | (with_reducible refine G.joini0 ?_) | (with_reducible refine G.joini1 ?_) | (with_reducible refine G.drew ?_) | (simp (maxSteps:=2000000) only [↓RG,RP,RB,BEq.rfl,Int.reduceEq,Int.reduceLT,Int.reduceLE,Nat.reduceEqDiff]))
    refine G.build gX [tp] rfl (by decide) rfl fun y hy=>?_
    repeat' (first | (with_reducible refine G.joini0 ?_) | (with_reducible refine G.joini1 ?_) | (with_reducible refine G.drew ?_) | (simp (maxSteps:=2000000) only [↓RG,RP,RB,BEq.rfl,Int.reduceEq,Int.reduceLT,Int.reduceLE,Nat.reduceEqDiff]))
    refine G.append (E:=gX) (xs:=l'.map (fun z:Nat×co=>z.1)) (ys:=[tp]) (by simp only [List.length_map,List.length_singleton];omega) (by simp only [List.length_map,List.length_singleton,maxLen];omega) fun u5 h5=>?_
    repeat' (first | (with_reducible refine G.joini0 ?_) | (with_reducible refine G.joini1 ?_) | (with_reducible refine G.drew ?_) | (simp (maxSteps:=2000000) only [↓RG,RP,RB,BEq.rfl,Int.reduceEq,Int.reduceLT,Int.reduceLE,Nat.reduceEqDiff]))
    rw [di (by omega)]
    have hn:=hJ (j+1,l'++[(tp,mr j S l[j].2)],u5) ⟨hj2,by rw [List.map_append,hl',List.take_succ_eq_append_getElem hj2,tI,hq,List.length_take];simp only [List.map_cons,List.map_nil];congr 3;omega,by simp [hl2],h5⟩ (by simp only;omega)
    simp only [List.map_append,List.map_cons,List.map_nil] at hn
    refine Ro hk4 ?_
    refine G.pickAll (As:=[ob gD tp (mr j S l[j].2),ob (cg lP) () l']) ?_
    rw [show [ob gD tp (mr j S l[j].2),ob (cg lP) () l']=[lP (tp,mr j S l[j].2),ob (cg lP) () l'] from rfl,List.cons_append,List.cons_append,List.nil_append,←mq]
    exact hn.sub
   ·obtain⟨e1,e2⟩:rows=[]∧R=[[]]:=hRc.resolve_left fun g=>hj3 (by rw [←g.1];exact hj2)
    have hq:R[j]=[]:=by
     have:∀p∈R,p=[]:=by rw [e2];simp
     exact this _ (List.getElem_mem _)
    have c:¬(j:Int)<((l.map (·.1)).length:Int):=by simp;omega
    repeat' (first | (with_reducible refine G.joini0 ?_) | (with_reducible refine G.joini1 ?_) | (with_reducible refine G.drew ?_) | (simp (maxSteps:=2000000) only [↓RG,RP,RB,BEq.rfl,Int.reduceEq,Int.reduceLT,Int.reduceLE,Nat.reduceEqDiff,c]))
    refine G.nilsl fj ?_
    refine nX (f:=pm) ?_
    refine Jg (.slice none 0 0) [] (ps:=[]) (rs:=[]) rfl rfl ?_
    refine Bw (me:=(j:Int)) (s:=S) (jobs:=[]) (by omega) (by rw [hSS,hSt];omega) (by decide) (by simp) fun tp=>?_
    repeat' (first | (with_reducible refine G.joini0 ?_) | (with_reducible refine G.joini1 ?_) | (with_reducible refine G.drew ?_) | (simp (maxSteps:=2000000) only [↓RG,RP,RB,BEq.rfl,Int.reduceEq,Int.reduceLT,Int.reduceLE,Nat.reduceEqDiff]))
    refine G.build gX [tp] rfl (by decide) rfl fun y hy=>?_
    repeat' (first | (with_reducible refine G.joini0 ?_) | (with_reducible refine G.joini1 ?_) | (with_reducible refine G.drew ?_) | (simp (maxSteps:=2000000) only [↓RG,RP,RB,BEq.rfl,Int.reduceEq,Int.reduceLT,Int.reduceLE,Nat.reduceEqDiff]))
    refine G.append (E:=gX) (xs:=l'.map (fun z:Nat×co=>z.1)) (ys:=[tp]) (by simp only [List.length_map,List.length_singleton];omega) (by simp only [List.length_map,List.length_singleton,maxLen];omega) fun u5 h5=>?_
    repeat' (first | (with_reducible refine G.joini0 ?_) | (with_reducible refine G.joini1 ?_) | (with_reducible refine G.drew ?_) | (simp (maxSteps:=2000000) only [↓RG,RP,RB,BEq.rfl,Int.reduceEq,Int.reduceLT,Int.reduceLE,Nat.reduceEqDiff]))
    rw [di (by omega)]
    have hn:=hJ (j+1,l'++[(tp,mr j S [])],u5) ⟨hj2,by rw [List.map_append,hl',List.take_succ_eq_append_getElem hj2,tI,hq,List.length_take];simp only [List.map_cons,List.map_nil];congr 3;omega,by simp [hl2],h5⟩ (by simp only;omega)
    simp only [List.map_append,List.map_cons,List.map_nil] at hn
    refine G.pickAll (As:=[ob gD tp (mr j S []),ob (cg lP) () l']) ?_
    rw [show [ob gD tp (mr j S []),ob (cg lP) () l']=[lP (tp,mr j S []),ob (cg lP) () l'] from rfl,List.cons_append,List.cons_append,List.nil_append,←mq]
    exact hn.sub
  ·have hj2:j=R.length:=by
    simp only [decide_eq_false_iff_not] at h
    omega
   try simp (maxSteps:=2000000) only [↓RG,RP,RB,BEq.rfl,Int.reduceEq,Int.reduceLT,Int.reduceLE,Nat.reduceEqDiff]
   refine nk b ⟨S,m1,jh S 0 R,0⟩ mp vt ⟨0,0,0,0,⟨0,false,0⟩,⟨0,false,0⟩⟩ false l' rfl (by rw [hl',hj2,List.take_length]) ?_
   have h2:=hK b trivial
   rw [fA,CJ] at h2
   exact(h2 l hl).sub
end
end Go.Proofs.YtoealglbimbbmaaGreatDoor.S
