import Derived.Test.YtoealglbimbbmaaGreatDoorOThrN
namespace Go.Proofs.YtoealglbimbbmaaGreatDoor.S
open Go Go.Proofs
set_option linter.unusedVariables false
set_option linter.unusedSimpArgs false
abbrev lZ (p:Nat×co):ay:=ob gD p.1 p.2
abbrev kw.cells (x:kw)(mp:Nat)(vt:Value)(o:rq)(did:Bool):List Value:=[i64 x.s.words,i64 x.s.stripes,i64 x.s.wide,i64 x.s.threads,u64 x.s.start,i64 x.s.spins,i64 x.s.writes,i64 x.s.fuel,ptr mp 0,vt,i64 x.picks,
 i64 o.kind,i64 o.place,u64 o.old,u64 o.word,u64 o.was.version,.bool o.was.held,i64 o.was.owner,u64 o.lock.version,.bool o.lock.held,i64 o.lock.owner,.bool did]
def nu (b:Nat)(x:kw):ay:=m3 fun mp=>m3 fun vt=>m3 fun o:rq=>m3 fun did=>m3 fun l:List (Nat×co)=>bk (ic (l.map (·.2)=x.thr)) (bk (bk (bk (own b (x.cells mp vt o did)) (ob uK mp x.mem)) (sl gV vt (l.map (·.1)))) (ob (cg lZ) () l))
section
variable {w0:bh}{L M:List ay}{K:KV}{F:World→Prop}{C:ay→List ay}{b mp:Nat}{x:kw}{v vt:Value}{o:rq}{did:Bool}
theorem nF:G w0 (ob nu b x::M) F=∀mp vt (o:rq) did (l:List (Nat×co)),l.map (·.2)=x.thr→G w0 (own b (x.cells mp vt o did)::ob uK mp x.mem::sl gV vt (l.map (·.1))::ob (cg lZ) () l::M) F:=by
 rw [eZ,nu]
 simp only [qr,fb,fU]
theorem nr (b:Nat)(x:kw)(mp:Nat)(vt:Value)(o:rq)(did:Bool)(l:List (Nat×co)){ps:List Nat}(hps:l.map (·.1)=ps)(hl:l.map (·.2)=x.thr) [ez [own b (x.cells mp vt o did),ob uK mp x.mem,sl gV vt ps,ob (cg lZ) () l] L M](H:G w0 (ob nu b x::M) F):G w0 L F :=
 G.pickAll (As:=[own b (x.cells mp vt o did),ob uK mp x.mem,sl gV vt ps,ob (cg lZ) () l]) (by rw [nF] at H;have:=H mp vt o did l hl;rw [hps] at this;exact this)
theorem Q7 {α:Type}{f:α→ay}{l:List α}{y:α}{k:Nat}(hk:k<l.length):G w0 (ob (cg f) () (l.set k y)::M) F=G w0 (f y::ob (cg f) () (l.eraseIdx k)::M) F:=by
 rw [kO (k:=k) (x:=y) (by rw [List.getElem?_set_self hk])]
 rw [List.eraseIdx_set_eq]
theorem PY {l:List (Nat×co)}{i:Nat}{t:co}{thr:List co}(hl:l.map (·.2)=thr)(hi:thr[i]? = some t):∃p,l[i]? = some (p,t):=by
 rw [←hl,List.getElem?_map] at hi
 cases h:l[i]? with
 | none=>rw [h] at hi;cases hi
 | some q=>rw [h] at hi;cases hi;exact⟨q.1,rfl⟩
theorem BE {l:List (Nat×co)}{i p:Nat}{t:co}(h:l[i]? = some (p,t)):eU (l.map (·.1)) i p:=⟨by rw [List.getElem?_map,h];rfl⟩
theorem IQ {l:List (Nat×co)}{i p:Nat}{t:co}(h:l[i]? = some (p,t)):i<l.length:=(List.getElem?_eq_some_iff.1 h).1
theorem Jm {l:List (Nat×co)}{i p:Nat}{t y:co}(h:l[i]? = some (p,t)):(l.set i (p,y)).map (·.1)=l.map (·.1):=by
 refine List.ext_getElem? fun j=>?_
 rw [List.getElem?_map,List.getElem?_map,List.getElem?_set]
 by_cases c:i=j
 ·subst c;rw [if_pos rfl,if_pos (IQ h),h];rfl
 ·rw [if_neg c]
theorem EV {l:List (Nat×co)}{i p:Nat}{t y:co}(h:l[i]? = some (p,t)) [ez [ob gD p y,ob (cg lZ) () (l.eraseIdx i)] L M](H:G w0 (ob (cg lZ) () (l.set i (p,y))::M) F):G w0 L F :=
 G.pickAll (As:=[ob gD p y,ob (cg lZ) () (l.eraseIdx i)]) (by rw [Q7 (IQ h)] at H;exact H)
theorem KW {l:List (Nat×co)}{i p:Nat}{t:co}(h:l[i]? = some (p,t)) [ez [ob gD p t,ob (cg lZ) () (l.eraseIdx i)] L M](H:G w0 (ob (cg lZ) () l::M) F):G w0 L F :=
 G.pickAll (As:=[ob gD p t,ob (cg lZ) () (l.eraseIdx i)]) (by rw [kO h] at H;exact H)
theorem K5 {i k:Nat}{s ver:Int}{l:List co}:(jc i s ver k l).length=l.length:=by unfold jc;simp
theorem qa {i k j:Nat}{s ver:Int}{l:List co}:(jc i s ver k l)[j]? = l[j]?.map fun u=>if j<k∧j≠i then il u s ver else u:=by unfold jc;rw [List.getElem?_mapIdx]
theorem KU {i:Nat}{s ver:Int}{l:List co}:jc i s ver 0 l=l:=List.ext_getElem? fun j=>by rw [qa];cases l[j]? <;> simp
theorem O8 {i:Nat}{s ver:Int}{l:List co}:jc i s ver (i+1) l=jc i s ver i l:=List.ext_getElem? fun j=>by
 rw [qa,qa]
 congr 1
 funext u
 by_cases h:j<i
 ·rw [if_pos ⟨by omega,by omega⟩,if_pos ⟨h,by omega⟩]
 ·rw [if_neg (by omega),if_neg (by omega)]
theorem JP {i k:Nat}{s ver:Int}{l:List co}{u:co}(hu:l[k]? = some u)(hk:k≠i):jc i s ver (k+1) l=(jc i s ver k l).set k (il u s ver):=List.ext_getElem? fun j=>by
 have hlt:=(List.getElem?_eq_some_iff.1 hu).1
 rw [qa]
 by_cases h:k=j
 ·subst h
  rw [List.getElem?_set_self (by rw [K5];exact hlt),hu]
  simp [hk]
 ·rw [List.getElem?_set_ne h,qa]
  congr 1
  funext u
  by_cases h2:j<k
  ·by_cases h3:j=i
   ·rw [if_neg (by omega),if_neg (by omega)]
   ·rw [if_pos ⟨by omega,h3⟩,if_pos ⟨h2,h3⟩]
  ·rw [if_neg (by omega),if_neg (by omega)]
theorem Fg (ht:uP w0){i:Nat}{t:co}{draw:Int}(ho:Py x i t)(hd:0≤draw)(hd2:draw≤255)[i_:aq L nu b x C]
  (hK:∀sl_,(∀at_,t.now=some at_→vA (bm at_ (az x.mem (bj t).1).2) sl_)→G w0 (C (ob nu b (if (bj t).2=true then l8 x i t draw sl_ else rm x i t))) (K (i64 0))):G w0 L (CP Tryz.prog Fn.machine_Machine_Pick [ptr b 0,i64 i,.int .u8 draw] K):=by
 refine i_.useA (A':=fun z:{ s // ∀at_,t.now=some at_→vA (bm at_ (az x.mem (bj t).1).2) s }=>ob nu b (if (bj t).2=true then l8 x i t draw z.1 else rm x i t)) (F':=fun _=>K (i64 0)) (fun M hK=>?_) (fun z=>hK z.1 z.2)
 have hK:=fun sl_ (h:∀at_,t.now=some at_→vA (bm at_ (az x.mem (bj t).1).2) sl_)=>hK ⟨sl_,h⟩
 simp only at hK
 have hsl:∃s0,∀at_,t.now=some at_→vA (bm at_ (az x.mem (bj t).1).2) s0:=by
  cases h:t.now with
  | none=>exact⟨⟨#[]⟩,fun _ g=>(by cases g)⟩
  | some q=>exact⟨RH (bm q (az x.mem (bj t).1).2),fun _ g=>(by cases g;exact Mh)⟩
 obtain⟨s0,hs0⟩:=hsl
 refine ub ?_
 unfold mn
 rw [nF]
 intro mp vt o did l hl
 obtain⟨p,hp⟩:=PY hl ho.at_
 have e:=BE hp
 have hlt:=IQ hp
 have hll:l.length=x.thr.length:=by rw [←hl];simp
 have hf:=ho.few
 have hpk:=ho.picks
 have n1:¬(i:Int)<0:=by omega
 have n2:¬((l.map (·.1)).length:Int)≤i:=by simp;omega
 have epk:IntKind.wrap .i64 (x.picks+1)=x.picks+1:=iA (by omega) (by omega)
 refine gu ?_
 refine gf (an n1 (an n2 epk)) ?_
 refine G.take1 (cg lZ) () ?_
 rw [kO hp]
 refine Gi (x:=t) ho.slots ho.run ?_
 unfold l8 at hK
 generalize hnx:bj t=nx at hK hs0
 have hear:=ho.hear
 have hpau:=ho.pauses
 rw [hnx] at hear hpau
 obtain⟨op,d⟩:=nx
 simp only at hear hpau hK
 cases d
 ·have hK:=hK s0 hs0
  rw [if_neg (by decide)] at hK
  refine gg ?_
  refine Fq (x:=t) ho.jobs (hpau rfl) ?_
  repeat' (first | (with_reducible refine G.joini0 ?_) | (with_reducible refine G.joini1 ?_) | (with_reducible refine G.drew ?_) | (simp (maxSteps:=2000000) only [↓RG,RP,RB,BEq.rfl,Int.reduceEq,Int.reduceLT,Int.reduceLE,Nat.reduceEqDiff]))
  refine EV (y:=ik t) hp ?_
  refine nr b (rm x i t) mp vt op false (l.set i (p,ik t)) (Jm hp) (by rw [List.map_set,hl]) ?_
  exact hK.sub
 ·simp only [if_true] at hK
  repeat' (first | (with_reducible refine G.joini0 ?_) | (with_reducible refine G.joini1 ?_) | (with_reducible refine G.drew ?_) | (simp (maxSteps:=2000000) only [↓RG,RP,RB,BEq.rfl,Int.reduceEq,Int.reduceLT,Int.reduceLE,Nat.reduceEqDiff]))
  refine AP (m:=x.mem) (o:=op) ?_
  refine gg ?_
  refine GS ht (x:=t) (hear rfl) hd hd2 fun sl_ hsl=>?_
  have hK:=hK sl_ hsl
  refine gg ?_
  generalize thrTell t (az x.mem op).2 draw (x.picks+1) sl_=t2 at hK
  generalize (az x.mem op).1=m2 at hK
  refine EV (y:=t2) hp ?_
  have e2:=Jm (y:=t2) hp
  have hl2:(l.set i (p,t2)).map (·.2)=x.thr.set i t2:=by rw [List.map_set,hl]
  have hq:∀k u,k≠i→(x.thr.set i t2)[k]? = some u→iM u∧∀a,u.now=some a→a.rd.length≤1000:=fun k u hk h=>by
   rw [List.getElem?_set_ne (fun g=>hk g.symm)] at h
   exact ho.others k u h hk
  have hll2:(l.set i (p,t2)).length=l.length:=by simp
  generalize l.set i (p,t2)=l2 at e2 hl2 hll2
  have hfin:∀(l3:List (Nat×co)) (thr3:List co),l3.map (·.1)=l.map (·.1)→l3.map (·.2)=thr3→G w0 (ob nu b { x with mem:=m2,thr:=thr3,picks:=x.picks+1 }::M) (K (i64 0))→G w0 (ob (cg lZ) () l3::own b (kw.cells { x with mem:=m2,picks:=x.picks+1 } mp vt op true)::ob uK mp m2::sl gV vt (l.map (·.1))::M) (K (i64 0)):=fun l3 thr3 g1 g2 g3=>by
   refine nr b { x with mem:=m2,thr:=thr3,picks:=x.picks+1 } mp vt op true l3 g1 g2 ?_
   exact g3.sub
  by_cases c5:op.kind=5
  ·rw [if_pos c5] at hK
   have hlen3:(x.thr.set i t2).length=l.length:=by simp [hll]
   rw [←hll] at hK
   generalize x.thr.set i t2=thr2 at hK hl2 hq hlen3
   refine eY (eq_true c5) ?_
   refine G.loop1 (σ:=Nat×List (Nat×co)) (fun z=>i64 z.1) (fun z=>ob (cg lZ) () z.2::own b (kw.cells { x with mem:=m2,picks:=x.picks+1 } mp vt op true)::ob uK mp m2::sl gV vt (l.map (·.1))::M)
    (fun z=>z.1≤l.length∧z.2.map (·.1)=l.map (·.1)∧z.2.map (·.2)=jc i op.place op.lock.version z.1 thr2) (fun z=>l.length-z.1) (0,l2) rfl rfl ⟨Nat.zero_le _,e2,by rw [KU];exact hl2⟩ ?_
   rintro⟨k,l3⟩ ⟨hk,g1,g2⟩ J hJ
   simp only at hk g1 g2 hJ ⊢
   have hlen:l3.length=l.length:=by have:=congrArg List.length g1;simpa using this
   refine gr ?_
   refine G.cond (fun h=>?_) (fun h=>?_)
   ·have hk2:k<l.length:=by simpa using h
    have hk3:k<l3.length:=by omega
    rcases hu:l3[k] with ⟨pk,u⟩
    have hk4:l3[k]? = some (pk,u):=by rw [List.getElem?_eq_getElem hk3,hu]
    have ek:eU (l.map (·.1)) k pk:=by rw [←g1];exact BE hk4
    have hu2:thr2[k]? = some u:=by
     have h1:(l3.map (·.2))[k]? = some u:=by rw [List.getElem?_map,hk4];rfl
     rw [g2,qa] at h1
     cases ht:thr2[k]? with
     | none=>rw [ht] at h1;cases h1
     | some u2=>rw [ht] at h1;simpa using h1
    by_cases ci:k=i
    ·subst ci
     have hn:=hJ (k+1,l3) ⟨hk2,g1,by rw [g2,O8]⟩ (by simp only;omega)
     refine gg ?_
     rw [di (by omega)]
     exact hn.sub
    ·have ci2:¬(k:Int)=i:=by omega
     obtain⟨j1,j2⟩:=hq k _ ci hu2
     have hn:=hJ (k+1,l3.set k (pk,il u op.place op.lock.version)) ⟨hk2,by rw [Jm hk4,g1],by rw [List.map_set,g2,JP hu2 ci]⟩ (by simp only;omega)
     repeat' (first | (with_reducible refine G.joini0 ?_) | (with_reducible refine G.joini1 ?_) | (with_reducible refine G.drew ?_) | (simp (maxSteps:=2000000) only [↓RG,RP,RB,BEq.rfl,Int.reduceEq,Int.reduceLT,Int.reduceLE,Nat.reduceEqDiff,ci2]))
     refine G.take1 (cg lZ) () ?_
     rw [kO hk4]
     refine GZ (x:=u) j1 j2 ?_
     rw [di (by omega)]
     refine EV (y:=il u op.place op.lock.version) hk4 ?_
     exact hn.sub
   ·have hk2:k=l.length:=by
     have:¬k<l.length:=by simpa using h
     omega
    refine gr ?_
    refine G.sub (hfin l3 (jc i op.place op.lock.version l.length thr2) g1 (by rw [g2,hk2]) hK)
  ·rw [if_neg c5] at hK
   refine eY c5 ?_
   exact(hfin l2 _ e2 hl2 hK).sub
theorem AV [i:aq L nu b x C](hK:G w0 L (K (i64 x.thr.length))):G w0 L (CP Tryz.prog Fn.machine_Machine_Threads [ptr b 0] K):=by
 refine i.ro (fun M hK=>?_) hK
 refine ra ?_
 unfold jW
 rw [nF] at *
 intro mp vt o did l hl
 have hK:=hK mp vt o did l hl
 have e:((l.map (·.1)).length:Int)=x.thr.length:=by rw [←hl];simp
 refine eY e ?_
 exact hK
theorem uz (hl:x.mem.w.length≤1000000)[i:aq L nu b x C](hK:∀u,ar u [u]→G w0 (sl cx u x.mem.w::L) (K u)):G w0 L (CP Tryz.prog Fn.machine_Machine_Words [ptr b 0] K):=by
 refine i.roN (fun M hK=>?_) hK
 refine sX ?_
 unfold lh
 rw [nF]
 intro mp vt o did l h
 refine gr ?_
 refine DM (m:=x.mem) hl fun u hu=>?_
 refine nr b x mp vt o did l rfl h ?_
 exact(hK u hu).sub
def tW:List co→Bool
 | []=>true
 | t::l=>(decide (t.state=6) || decide (t.state=4)) && tW l
theorem DP (hf:x.thr.length≤4)[i:aq L nu b x C](hK:G w0 L (K (.bool (tW x.thr)))):G w0 L (CP Tryz.prog Fn.machine_Machine_Rests [ptr b 0] K):=by
 refine i.ro (fun M hK=>?_) hK
 refine sT ?_
 unfold lu
 rw [nF] at *
 intro mp vt o did l hl
 have hK:=hK mp vt o did l hl
 have hll:l.length=x.thr.length:=by rw [←hl];simp
 refine gr ?_
 refine G.loop1 (fun k:Nat=>i64 k) (fun k=>own b (x.cells mp vt o did)::ob uK mp x.mem::sl gV vt (l.map (·.1))::ob (cg lZ) () l::M) (fun k=>k≤l.length∧tW x.thr=tW (x.thr.drop k)) (fun k=>l.length-k) 0 rfl rfl (by simp) ?_
 intro k ⟨hk,hr⟩ J hJ
 refine gr ?_
 refine G.cond (fun h=>?_) (fun h=>?_)
 ·have hk2:k<l.length:=by simpa using h
  rcases hu:l[k] with ⟨pk,u⟩
  have hk4:l[k]? = some (pk,u):=by rw [List.getElem?_eq_getElem hk2,hu]
  have ek:eU (l.map (·.1)) k pk:=BE hk4
  have hd:x.thr.drop k=u::x.thr.drop (k+1):=by
   have ht:x.thr[k]? = some u:=by rw [←hl,List.getElem?_map,hk4];rfl
   obtain⟨g1,g2⟩:=List.getElem?_eq_some_iff.1 ht
   rw [List.drop_eq_getElem_cons g1,g2]
  rw [hd,show tW (u::x.thr.drop (k+1))=((decide (u.state=6) || decide (u.state=4)) && tW (x.thr.drop (k+1))) from rfl] at hr
  refine gu ?_
  refine gr ?_
  refine G.take1 (cg lZ) () ?_
  rw [kO hk4]
  refine EU (x:=u) ?_
  rw [←kO hk4]
  by_cases c6:u.state=6
  ·have hn:=hJ (k+1) ⟨hk2,by rw [hr];simp [c6]⟩ (by omega)
   refine eY c6 ?_
   rw [di (by omega)]
   exact hn.sub
  ·by_cases c4:u.state=4
   ·have hn:=hJ (k+1) ⟨hk2,by rw [hr];simp [c4]⟩ (by omega)
    refine eY (an c6 c4) ?_
    rw [di (by omega)]
    exact hn.sub
   ·have e:tW x.thr=false:=by rw [hr];simp [c6,c4]
    rw [e] at hK
    refine eY (an c6 c4) ?_
    exact hK.sub
 ·have hk2:k=x.thr.length:=by
   have:¬k<l.length:=by simpa using h
   omega
  have e:tW x.thr=true:=by rw [hr,hk2,List.drop_length];rfl
  rw [e] at hK
  refine gr ?_
  exact hK
theorem An {i:Nat}{t:co}(hi:x.thr[i]? = some t)(hf:x.thr.length≤4)(hl:t.res.length≤1000000)[i_:aq L nu b x C](hK:∀u,ar u [u]→G w0 (sl iB u t.res::L) (K u)):G w0 L (CP Tryz.prog Fn.machine_Machine_Results [ptr b 0,i64 i] K):=by
 refine i_.roN (fun M hK=>?_) hK
 refine rf ?_
 unfold jV
 refine wP ?_
 unfold o0
 rw [nF]
 intro mp vt o did l h
 obtain⟨p,hp⟩:=PY h hi
 have e:=BE hp
 have hlt:=IQ hp
 have n1:¬(i:Int)<0:=by omega
 have n2:¬((l.map (·.1)).length:Int)≤i:=by simp;omega
 refine gu ?_
 refine gf (an n1 n2) ?_
 refine G.take1 (cg lZ) () ?_
 rw [kO hp]
 refine B5 (x:=t) hl fun u hu=>?_
 refine KW hp ?_
 refine nr b x mp vt o did l rfl h ?_
 exact(hK u hu).sub
theorem Lw {α:Type}{f:α→ay}{l l2:List α}:G w0 (ob (cg f) () (l++l2)::M) F=G w0 (ob (cg f) () l::ob (cg f) () l2::M) F:=by
 rw [eZ,eZ,eZ,←fb]
 unfold cg
 rw [List.map_append,t7]
theorem ql (ht:uP w0)(hs:∀t∈x.thr,t.past.length≤1000000∧(t.state=1→∃a,t.now=some a∧C7 a))(hf:x.thr.length≤4)[i:aq L nu b x C](hK:∀u,ar u [u]→G w0 (ob jw u (ww x)::L) (K u)):G w0 L (CP Tryz.prog Fn.machine_Machine_Attempts [ptr b 0] K):=by
 refine i.roN (fun M hK=>?_) hK
 refine qY ?_
 unfold jI
 rw [nF]
 intro mp vt o did l hl
 have hll:l.length=x.thr.length:=by rw [←hl];simp
 have htl:∀t∈x.thr,(ev t).length≤1000001:=fun t h=>by
  have h1:=(hs t h).1
  by_cases c:t.state=1
  ·obtain⟨a,ha,_⟩:=(hs t h).2 c
   have e:ev t=t.past++(if a.begun=true then [gd a t.born 0] else []):=by unfold ev;rw [if_pos c,ha]
   rw [e,List.length_append]
   split <;> simp <;> omega
  ·have e:ev t=t.past:=by unfold ev;rw [if_neg c,List.append_nil]
   rw [e];omega
 refine gr ?_
 refine G.nilsl fg ?_
 refine nO (f:=em) ?_
 refine G.loop2 (σ:=Nat×List gi×Value) (fun z=>z.2.2) (fun z=>i64 z.1) (fun z=>ob (cg em) () z.2.1::sl fg z.2.2 (z.2.1.map (·.1))::own b (x.cells mp vt o did)::ob uK mp x.mem::sl gV vt (l.map (·.1))::ob (cg lZ) () l::M)
  (fun z=>z.1≤l.length∧z.2.1.map (·.2.1)=(x.thr.take z.1).flatMap ev∧(∀p∈z.2.1,sJ p)∧z.2.1.length≤z.1*1000001∧ar z.2.2 [z.2.2]) (fun z=>l.length-z.1) (0,[],.slice none 0 0) rfl rfl rfl ⟨Nat.zero_le _,rfl,by simp,Nat.zero_le _,be⟩ ?_
 rintro⟨k,ys,vy⟩ ⟨hk,hy,hy3,hy2,hvy⟩ J hJ
 simp only at hk hy hy2 hy3 hvy hJ ⊢
 refine gr ?_
 refine G.cond (fun h=>?_) (fun h=>?_)
 ·have hk2:k<l.length:=by simpa using h
  rcases hu:l[k] with ⟨pk,u⟩
  have hk4:l[k]? = some (pk,u):=by rw [List.getElem?_eq_getElem hk2,hu]
  have ek:eU (l.map (·.1)) k pk:=BE hk4
  have ht2:x.thr[k]? = some u:=by rw [←hl,List.getElem?_map,hk4];rfl
  obtain⟨g1,g2⟩:=List.getElem?_eq_some_iff.1 ht2
  have hmem:=List.mem_of_getElem? ht2
  obtain⟨hs1,hs2⟩:=hs u hmem
  have hlu:=htl u hmem
  refine gr ?_
  refine G.take1 (cg lZ) () ?_
  rw [kO hk4]
  refine BM ht (x:=u) hs1 hs2 fun w hw=>?_
  rw [lj]
  intro zs hzs
  refine KW hk4 ?_
  have hzl:zs.length=(ev u).length:=by rw [←hzs.1];simp
  refine G.append (E:=fg) (xs:=ys.map fun z:gi=>z.1) (ys:=zs.map fun z:gi=>z.1) (by simp only [List.length_map];omega) (by simp only [List.length_map,maxLen];omega) fun u5 h5=>?_
  refine gr ?_
  rw [di (by omega)]
  have hn:=hJ (k+1,ys++zs,u5) ⟨hk2,by rw [List.map_append,hy,hzs.1,List.take_succ_eq_append_getElem (by omega),List.flatMap_append,g2];simp,fun p hp=>by
   rcases List.mem_append.1 hp with hp | hp
   ·exact hy3 p hp
   ·exact hzs.2 p hp,by simp only [List.length_append];omega,h5⟩ (by simp only;omega)
  simp only [List.map_append] at hn
  refine G.pickAll (As:=[ob (cg em) () ys,ob (cg em) () zs]) ?_
  simp only [List.cons_append,List.nil_append]
  rw [←Lw]
  exact hn.sub
 ·have hk2:k=x.thr.length:=by
   have:¬k<l.length:=by simpa using h
   omega
  refine gr ?_
  refine xU vy ys ⟨by rw [hy,hk2,List.take_length],hy3⟩ ?_
  refine nr b x mp vt o did l rfl hl ?_
  exact(hK vy hvy).sub
abbrev tU (p:lA×List (List bu)):ay:=ob i5 p.1.v p.2
def G9 (v:Value)(rows:List (List (List bu))):ay:=m3 fun l:List (lA×List (List bu))=>bk (ic (l.map (·.2)=rows)) (bk (sl fj v (l.map (·.1))) (ob (cg tU) () l))
theorem B1 {rows:List (List (List bu))}:G w0 (ob G9 v rows::M) F=∀l:List (lA×List (List bu)),l.map (·.2)=rows→G w0 (sl fj v (l.map (·.1))::ob (cg tU) () l::M) F:=by
 rw [eZ,G9]
 simp only [qr,fb,fU]
theorem Gn {n:Int}(hK:∀u,ar u [u]→G w0 (sl cx u ((List.replicate (held n 32 256).toNat 0).set 5 14)::L) (K u)):G w0 L (CP Tryz.prog Fn.arena_Fresh [i64 n] K):=by
 refine GO ?_
 unfold zh
 have e:(if (if (256:Int)<n then 256 else n) > 32 then (if (256:Int)<n then 256 else n) else 32)=held n 32 256:=jK (by decide)
 have hh:=ft (n:=n) (lo:=32) (hi:=256) (by decide)
 refine eY e ?_
 obtain⟨j,hj⟩:∃j:Nat,held n 32 256=j:=⟨(held n 32 256).toNat,by omega⟩
 have h1:32≤j:=by omega
 have h2:j≤256:=by omega
 rw [hj] at hK ⊢
 simp only [Int.toNat_natCast] at hK
 refine G.make cx 0 rfl (by simp only [maxLen];omega) (by omega) fun u hu=>?_
 have e5:eU (List.replicate j (0:Int)) 5 0:=⟨by rw [List.getElem?_replicate,if_pos (by omega)]⟩
 refine gr ?_
 exact hK u hu
theorem tu {s:eO}{r:List (List bu)}:∀{l:List (List (List bu))}{i:Nat},jg s i (l++[r])=jg s i l++[mj ((i+l.length:Nat):Int) s r]
 | [],i=>rfl
 | a::l,i=>by
  rw [List.cons_append,jg,jg,tu,List.cons_append]
  congr 4
  simp only [List.length_cons];omega
theorem Q5 {l:List (lA×List (List bu))}{i:Nat}{q:lA×List (List bu)}(h:l[i]? = some q) [ez [ob i5 q.1.v q.2,ob (cg tU) () (l.eraseIdx i)] L M](H:G w0 (ob (cg tU) () l::M) F):G w0 L F :=
 G.pickAll (As:=[ob i5 q.1.v q.2,ob (cg tU) () (l.eraseIdx i)]) (by rw [kO h] at H;exact H)
theorem ID (v:Value)(l:List (lA×List (List bu))){ps:List lA}{rs:List (List (List bu))}(hp:l.map (·.1)=ps)(hr:l.map (·.2)=rs) [ez [sl fj v ps,ob (cg tU) () l] L M](H:G w0 (ob G9 v rs::M) F):G w0 L F :=
 G.pickAll (As:=[sl fj v ps,ob (cg tU) () l]) (by rw [B1] at H;have:=H l hr;rw [hp] at this;exact this)
theorem IK (v:Value)(l:List (lA×List bu)){ps:List lA}{rs:List (List bu)}(hp:l.map (·.1)=ps)(hr:l.map (·.2)=rs) [ez [sl fj v ps,ob (cg pi) () l] L M](H:G w0 (ob i5 v rs::M) F):G w0 L F :=
 G.pickAll (As:=[sl fj v ps,ob (cg pi) () l]) (by rw [tf] at H;have:=H l hr;rw [hp] at this;exact this)
def nf:List (List (List bu))→List (List (List bu))
 | []=>[[]]
 | r::l=>r::l
theorem Hg {l:List (List (List bu))}(h:0<l.length):nf l=l:=by cases l with | nil=>cases h | cons r l=>rfl
theorem zm {s:eO}{rows:List (List (List bu))}(h4:rows.length≤4)(hr:∀r∈rows,r.length≤6∧∀p∈r,p.length≤1000)[i:aq L G9 v rows C](hv:ar v [v])
  (hK:∀b,G w0 (ob nu b (eH s (nf rows))::L) (K (ptr b 0))):G w0 L (CP Tryz.prog Fn.machine_New [.agg (eO.cells s).toArray,v] K):=by
 refine i.roN (P:=fun _=>True) (N:=fun b=>ob nu b (eH s (nf rows))) (F':=fun b=>K (ptr b 0)) (fun M hK=>?_) (fun b _=>hK b)
 refine Gx ?_
 unfold yN
 obtain⟨S,hS⟩:∃S,dj { s with threads:=(rows.length:Int) }=S:=⟨_,rfl⟩
 have hSS:dj S=S:=by rw [←hS];exact Aq _
 have hw:=ft (n:=s.words) (lo:=32) (hi:=256) (by decide)
 have hSw:S.words=held s.words 32 256:=by rw [←hS];rfl
 obtain⟨R,hR⟩:∃R,nf rows=R:=⟨_,rfl⟩
 have hRc:(R=rows∧0<rows.length)∨(rows=[]∧R=[[]]):=by
  rw [←hR]
  cases rows with
  | nil=>exact .inr ⟨rfl,rfl⟩
  | cons r l=>exact .inl ⟨rfl,by simp⟩
 have hSR:dj { s with threads:=(R.length:Int) }=S:=by
  rw [←hS]
  rcases hRc with ⟨e,_⟩ | ⟨e1,e2⟩
  ·rw [e]
  ·rw [e1,e2];rfl
 have hR4:R.length≤4:=by rcases hRc with ⟨e,_⟩ | ⟨e1,e2⟩;rw [e];exact h4;rw [e2];decide
 have hSt:S.threads=R.length:=by
  rw [←hSR]
  show held (R.length:Int) 1 4=_
  have:0<R.length:=by rcases hRc with ⟨e,h⟩ | ⟨e1,e2⟩;rw [e];exact h;rw [e2];decide
  unfold held;rw [if_neg (by omega),if_neg (by omega)]
 rw [hR] at hK
 simp only [eH,dp,hSR] at hK
 rw [B1]
 intro l hl
 have hlen:l.length=rows.length:=by rw [←hl];simp
 refine G.box fun q=>?_
 have hc:(if ((4:Int)<((l.map (·.1)).length:Int)) then 4 else ((l.map (·.1)).length:Int))=((l.map (·.1)).length:Int):=by rw [if_neg (by simp;omega)]
 repeat' (first | (with_reducible refine G.joini0 ?_) | (with_reducible refine G.joini1 ?_) | (with_reducible refine G.drew ?_) | (simp (maxSteps:=2000000) only [↓RG,RP,RB,BEq.rfl,Int.reduceEq,Int.reduceLT,Int.reduceLE,Nat.reduceEqDiff,hc]))
 refine G.sliceAll ?_
 have hlm:((l.map (·.1)).length:Int)=rows.length:=by simp [hlen]
 repeat' (first | (with_reducible refine G.joini0 ?_) | (with_reducible refine G.joini1 ?_) | (with_reducible refine G.drew ?_) | (simp (maxSteps:=2000000) only [↓RG,RP,RB,BEq.rfl,Int.reduceEq,Int.reduceLT,Int.reduceLE,Nat.reduceEqDiff,hlm]))
 refine qQ (s:={ s with threads:=rows.length }) ?_
 rw [hS]
 repeat' (first | (with_reducible refine G.joini0 ?_) | (with_reducible refine G.joini1 ?_) | (with_reducible refine G.drew ?_) | (simp (maxSteps:=2000000) only [↓RG,RP,RB,BEq.rfl,Int.reduceEq,Int.reduceLT,Int.reduceLE,Nat.reduceEqDiff]))
 refine OA (s:=S.shape) fun mp=>?_
 generalize tO S.shape=m0 at hK ⊢
 repeat' (first | (with_reducible refine G.joini0 ?_) | (with_reducible refine G.joini1 ?_) | (with_reducible refine G.drew ?_) | (simp (maxSteps:=2000000) only [↓RG,RP,RB,BEq.rfl,Int.reduceEq,Int.reduceLT,Int.reduceLE,Nat.reduceEqDiff]))
 refine G.box fun b=>?_
 repeat' (first | (with_reducible refine G.joini0 ?_) | (with_reducible refine G.joini1 ?_) | (with_reducible refine G.drew ?_) | (simp (maxSteps:=2000000) only [↓RG,RP,RB,BEq.rfl,Int.reduceEq,Int.reduceLT,Int.reduceLE,Nat.reduceEqDiff]))
 refine Gn fun u hu=>?_
 obtain⟨n,hn⟩:∃n,(held S.words 32 256).toNat=n:=⟨_,rfl⟩
 have hn1:32≤n:=by rw [←hn,hSw,fL (by decide)];omega
 have hn2:n≤256:=by rw [←hn,hSw,fL (by decide)];omega
 rw [hn]
 have hwl:((List.replicate n (0:Int)).set 5 14).length=n:=by simp
 repeat' (first | (with_reducible refine G.joini0 ?_) | (with_reducible refine G.joini1 ?_) | (with_reducible refine G.drew ?_) | (simp (maxSteps:=2000000) only [↓RG,RP,RB,BEq.rfl,Int.reduceEq,Int.reduceLT,Int.reduceLE,Nat.reduceEqDiff]))
 refine G.loop1 (fun k:Nat=>i64 k) (fun k=>sl cx u ((List.replicate n 0).set 5 14)::own b (kw.cells ⟨S,m0,[],0⟩ mp (.slice none 0 0) ⟨0,0,0,0,⟨0,false,0⟩,⟨0,false,0⟩⟩ false)::ob uK mp (kH m0 k)::own q (eO.cells S)::sl fj v (l.map (·.1))::ob (cg tU) () l::M)
  (fun k=>k≤n) (fun k=>n-k) 0 rfl rfl (by simp) ?_
 intro k hk J hJ
 try simp (maxSteps:=2000000) only [↓RG,RP,RB,BEq.rfl,Int.reduceEq,Int.reduceLT,Int.reduceLE,Nat.reduceEqDiff,hwl]
 refine G.cond (fun h=>?_) (fun h=>?_)
 ·have hk2:k<n:=by simpa using h
  have hn3:=hJ (k+1) hk2 (by omega)
  by_cases c5:k=5
  ·have e:eU ((List.replicate n (0:Int)).set 5 14) k 14:=⟨by rw [c5,List.getElem?_set_self (by simp;omega)]⟩
   have ek:kH m0 k=m0∧kH m0 (k+1)=(az m0 ⟨2,k,0,14,ah,ah⟩).1:=by subst c5;exact⟨rfl,rfl⟩
   rw [ek.2] at hn3
   rw [ek.1]
   repeat' (first | (with_reducible refine G.joini0 ?_) | (with_reducible refine G.joini1 ?_) | (with_reducible refine G.drew ?_) | (simp (maxSteps:=2000000) only [↓RG,RP,RB,BEq.rfl,Int.reduceEq,Int.reduceLT,Int.reduceLE,Nat.reduceEqDiff]))
   refine AP (m:=m0) (o:=⟨2,k,0,14,ah,ah⟩) ?_
   repeat' (first | (with_reducible refine G.joini0 ?_) | (with_reducible refine G.joini1 ?_) | (with_reducible refine G.drew ?_) | (simp (maxSteps:=2000000) only [↓RG,RP,RB,BEq.rfl,Int.reduceEq,Int.reduceLT,Int.reduceLE,Nat.reduceEqDiff]))
   rw [di (by omega)]
   exact hn3.sub
  ·have e:eU ((List.replicate n (0:Int)).set 5 14) k 0:=⟨by rw [List.getElem?_set_ne (fun g=>c5 g.symm),List.getElem?_replicate,if_pos hk2]⟩
   have ef:kH m0 (k+1)=kH m0 k:=by
    unfold kH
    by_cases c:k≤5
    ·rw [if_pos (by omega),if_pos c]
    ·rw [if_neg (by omega),if_neg c]
   rw [ef] at hn3
   repeat' (first | (with_reducible refine G.joini0 ?_) | (with_reducible refine G.joini1 ?_) | (with_reducible refine G.drew ?_) | (simp (maxSteps:=2000000) only [↓RG,RP,RB,BEq.rfl,Int.reduceEq,Int.reduceLT,Int.reduceLE,Nat.reduceEqDiff]))
   rw [di (by omega)]
   exact hn3.sub
 ·have hk2:k=n:=by
   have:¬k<n:=by simpa using h
   omega
  have ef:kH m0 k=kH m0 6:=by unfold kH;rw [if_neg (by omega),if_neg (by omega)]
  rw [ef]
  generalize kH m0 6=m1 at hK ⊢
  repeat' (first | (with_reducible refine G.joini0 ?_) | (with_reducible refine G.joini1 ?_) | (with_reducible refine G.drew ?_) | (simp (maxSteps:=2000000) only [↓RG,RP,RB,BEq.rfl,Int.reduceEq,Int.reduceLT,Int.reduceLE,Nat.reduceEqDiff]))
  refine G.nilsl gV ?_
  refine nO (f:=lZ) ?_
  refine G.loop1 (σ:=Nat×List (Nat×co)×Value) (fun z=>i64 z.1) (fun z=>ob (cg lZ) () z.2.1::sl gV z.2.2 (z.2.1.map (·.1))::sl cx u ((List.replicate n 0).set 5 14)::own b (kw.cells ⟨S,m1,[],0⟩ mp z.2.2 ⟨0,0,0,0,⟨0,false,0⟩,⟨0,false,0⟩⟩ false)::ob uK mp m1::own q (eO.cells S)::sl fj v (l.map (·.1))::ob (cg tU) () l::M)
   (fun z=>z.1≤R.length∧z.2.1.map (·.2)=jg S 0 (R.take z.1)∧z.2.1.length=z.1∧ar z.2.2 [z.2.2]) (fun z=>R.length-z.1) (0,[],.slice none 0 0) rfl rfl ⟨Nat.zero_le _,rfl,rfl,be⟩ ?_
  rintro⟨j,l',vt⟩ ⟨hj,hl',hl2,hvt⟩ J hJ
  simp only at hj hl' hl2 hvt hJ ⊢
  try simp (maxSteps:=2000000) only [↓RG,RP,RB,BEq.rfl,Int.reduceEq,Int.reduceLT,Int.reduceLE,Nat.reduceEqDiff]
  refine G.cond (fun h=>?_) (fun h=>?_)
  ·have hj2:j<R.length:=by simp only [decide_eq_true_eq] at h;omega
   by_cases hj3:j<rows.length
   ·have hj0:0<rows.length:=by omega
    have hRr:R=rows:=by rw [←hR];exact Hg hj0
    have hk4:l[j]? = some l[j]:=List.getElem?_eq_getElem (by omega)
    have e:eU (l.map (·.1)) j l[j].1:=⟨by rw [List.getElem?_map,hk4];rfl⟩
    have hq0:l[j].2=rows[j]:=by simp only [←hl,List.getElem_map]
    have hq:R[j]=l[j].2:=by rw [hq0];simp only [hRr]
    have hrj:=hr _ (List.getElem_mem hj3)
    have c:(j:Int)<((l.map (·.1)).length:Int):=by simp;omega
    repeat' (first | (with_reducible refine G.joini0 ?_) | (with_reducible refine G.joini1 ?_) | (with_reducible refine G.drew ?_) | (simp (maxSteps:=2000000) only [↓RG,RP,RB,BEq.rfl,Int.reduceEq,Int.reduceLT,Int.reduceLE,Nat.reduceEqDiff,c]))
    refine G.take1 (cg tU) () ?_
    rw [kO hk4]
    refine Am (me:=(j:Int)) (s:=S) (jobs:=l[j].2) (by omega) (by rw [hSS,hSt];omega) (by rw [hq0];exact hrj.1) (by rw [hq0];exact hrj.2) fun tp=>?_
    repeat' (first | (with_reducible refine G.joini0 ?_) | (with_reducible refine G.joini1 ?_) | (with_reducible refine G.drew ?_) | (simp (maxSteps:=2000000) only [↓RG,RP,RB,BEq.rfl,Int.reduceEq,Int.reduceLT,Int.reduceLE,Nat.reduceEqDiff]))
    refine G.build gV [tp] rfl (by decide) rfl fun y hy=>?_
    repeat' (first | (with_reducible refine G.joini0 ?_) | (with_reducible refine G.joini1 ?_) | (with_reducible refine G.drew ?_) | (simp (maxSteps:=2000000) only [↓RG,RP,RB,BEq.rfl,Int.reduceEq,Int.reduceLT,Int.reduceLE,Nat.reduceEqDiff]))
    refine G.append (E:=gV) (xs:=l'.map (fun z:Nat×co=>z.1)) (ys:=[tp]) (by simp only [List.length_map,List.length_singleton];omega) (by simp only [List.length_map,List.length_singleton,maxLen];omega) fun u5 h5=>?_
    repeat' (first | (with_reducible refine G.joini0 ?_) | (with_reducible refine G.joini1 ?_) | (with_reducible refine G.drew ?_) | (simp (maxSteps:=2000000) only [↓RG,RP,RB,BEq.rfl,Int.reduceEq,Int.reduceLT,Int.reduceLE,Nat.reduceEqDiff]))
    rw [di (by omega)]
    have hn:=hJ (j+1,l'++[(tp,mj j S l[j].2)],u5) ⟨hj2,by rw [List.map_append,hl',List.take_succ_eq_append_getElem hj2,tu,hq,List.length_take];simp only [List.map_cons,List.map_nil];congr 3;omega,by simp [hl2],h5⟩ (by simp only;omega)
    simp only [List.map_append,List.map_cons,List.map_nil] at hn
    refine Q5 hk4 ?_
    refine G.pickAll (As:=[ob gD tp (mj j S l[j].2),ob (cg lZ) () l']) ?_
    rw [show [ob gD tp (mj j S l[j].2),ob (cg lZ) () l']=[lZ (tp,mj j S l[j].2),ob (cg lZ) () l'] from rfl,List.cons_append,List.cons_append,List.nil_append,←ml]
    exact hn.sub
   ·obtain⟨e1,e2⟩:rows=[]∧R=[[]]:=hRc.resolve_left fun g=>hj3 (by rw [←g.1];exact hj2)
    have hq:R[j]=[]:=by
     have:∀p∈R,p=[]:=by rw [e2];simp
     exact this _ (List.getElem_mem _)
    have c:¬(j:Int)<((l.map (·.1)).length:Int):=by simp;omega
    repeat' (first | (with_reducible refine G.joini0 ?_) | (with_reducible refine G.joini1 ?_) | (with_reducible refine G.drew ?_) | (simp (maxSteps:=2000000) only [↓RG,RP,RB,BEq.rfl,Int.reduceEq,Int.reduceLT,Int.reduceLE,Nat.reduceEqDiff,c]))
    refine G.nilsl fj ?_
    refine nO (f:=pi) ?_
    refine IK (.slice none 0 0) [] (ps:=[]) (rs:=[]) rfl rfl ?_
    refine Am (me:=(j:Int)) (s:=S) (jobs:=[]) (by omega) (by rw [hSS,hSt];omega) (by decide) (by simp) fun tp=>?_
    repeat' (first | (with_reducible refine G.joini0 ?_) | (with_reducible refine G.joini1 ?_) | (with_reducible refine G.drew ?_) | (simp (maxSteps:=2000000) only [↓RG,RP,RB,BEq.rfl,Int.reduceEq,Int.reduceLT,Int.reduceLE,Nat.reduceEqDiff]))
    refine G.build gV [tp] rfl (by decide) rfl fun y hy=>?_
    repeat' (first | (with_reducible refine G.joini0 ?_) | (with_reducible refine G.joini1 ?_) | (with_reducible refine G.drew ?_) | (simp (maxSteps:=2000000) only [↓RG,RP,RB,BEq.rfl,Int.reduceEq,Int.reduceLT,Int.reduceLE,Nat.reduceEqDiff]))
    refine G.append (E:=gV) (xs:=l'.map (fun z:Nat×co=>z.1)) (ys:=[tp]) (by simp only [List.length_map,List.length_singleton];omega) (by simp only [List.length_map,List.length_singleton,maxLen];omega) fun u5 h5=>?_
    repeat' (first | (with_reducible refine G.joini0 ?_) | (with_reducible refine G.joini1 ?_) | (with_reducible refine G.drew ?_) | (simp (maxSteps:=2000000) only [↓RG,RP,RB,BEq.rfl,Int.reduceEq,Int.reduceLT,Int.reduceLE,Nat.reduceEqDiff]))
    rw [di (by omega)]
    have hn:=hJ (j+1,l'++[(tp,mj j S [])],u5) ⟨hj2,by rw [List.map_append,hl',List.take_succ_eq_append_getElem hj2,tu,hq,List.length_take];simp only [List.map_cons,List.map_nil];congr 3;omega,by simp [hl2],h5⟩ (by simp only;omega)
    simp only [List.map_append,List.map_cons,List.map_nil] at hn
    refine G.pickAll (As:=[ob gD tp (mj j S []),ob (cg lZ) () l']) ?_
    rw [show [ob gD tp (mj j S []),ob (cg lZ) () l']=[lZ (tp,mj j S []),ob (cg lZ) () l'] from rfl,List.cons_append,List.cons_append,List.nil_append,←ml]
    exact hn.sub
  ·have hj2:j=R.length:=by
    simp only [decide_eq_false_iff_not] at h
    omega
   try simp (maxSteps:=2000000) only [↓RG,RP,RB,BEq.rfl,Int.reduceEq,Int.reduceLT,Int.reduceLE,Nat.reduceEqDiff]
   refine nr b ⟨S,m1,jg S 0 R,0⟩ mp vt ⟨0,0,0,0,⟨0,false,0⟩,⟨0,false,0⟩⟩ false l' rfl (by rw [hl',hj2,List.take_length]) ?_
   have h2:=hK b trivial
   rw [fA,B1] at h2
   exact(h2 l hl).sub
end
end Go.Proofs.YtoealglbimbbmaaGreatDoor.S
