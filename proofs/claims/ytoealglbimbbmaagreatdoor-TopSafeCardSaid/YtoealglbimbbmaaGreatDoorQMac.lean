import Derived.Test.YtoealglbimbbmaaGreatDoorQThrN
namespace Go.Proofs.YtoealglbimbbmaaGreatDoor.S
open Go Go.Proofs
set_option linter.unusedVariables false
set_option linter.unusedSimpArgs false
abbrev l9 (p:Nat×bq):bd:=ob fW p.1 p.2
abbrev io.cells (x:io)(mp:Nat)(vt:Value)(o:pD)(did:Bool):List Value:=[i64 x.s.words,i64 x.s.stripes,i64 x.s.wide,i64 x.s.threads,u64 x.s.start,i64 x.s.spins,i64 x.s.writes,i64 x.s.fuel,ptr mp 0,vt,i64 x.picks,
 i64 o.kind,i64 o.place,u64 o.old,u64 o.word,u64 o.was.version,.bool o.was.held,i64 o.was.owner,u64 o.lock.version,.bool o.lock.held,i64 o.lock.owner,.bool did]
def nE (b:Nat)(x:io):bd:=od fun mp=>od fun vt=>od fun l:List (Nat×bq)=>bt (gX (l.map (·.2)=x.thr)) (bt (bt (bt (own b (x.cells mp vt x.last x.did)) (ob uc mp x.mem)) (sl i0 vt (l.map (·.1)))) (ob (cd l9) () l))
section
variable {w0:bo}{L M:List bd}{K:KV}{F:World→Prop}{C:bd→List bd}{b mp:Nat}{x:io}{v vt:Value}{o:pD}{did:Bool}
theorem lm:G w0 (ob nE b x::M) F=∀mp vt (l:List (Nat×bq)),l.map (·.2)=x.thr→G w0 (own b (x.cells mp vt x.last x.did)::ob uc mp x.mem::sl i0 vt (l.map (·.1))::ob (cd l9) () l::M) F:=by
 rw [em,nE]
 simp only [qm,ez,fI]
theorem m3 (b:Nat)(x:io)(mp:Nat)(vt:Value)(l:List (Nat×bq)){ps:List Nat}(hps:l.map (·.1)=ps)(hl:l.map (·.2)=x.thr) [dM [own b (x.cells mp vt x.last x.did),ob uc mp x.mem,sl i0 vt ps,ob (cd l9) () l] L M](H:G w0 (ob nE b x::M) F):G w0 L F :=
 G.pickAll (As:=[own b (x.cells mp vt x.last x.did),ob uc mp x.mem,sl i0 vt ps,ob (cd l9) () l]) (by rw [lm] at H;have:=H mp vt l hl;rw [hps] at this;exact this)
theorem Na {α:Type}{f:α→bd}{l:List α}{y:α}{k:Nat}(hk:k<l.length):G w0 (ob (cd f) () (l.set k y)::M) F=G w0 (f y::ob (cd f) () (l.eraseIdx k)::M) F:=by
 rw [ju (k:=k) (x:=y) (by rw [List.getElem?_set_self hk])]
 rw [List.eraseIdx_set_eq]
theorem Po {l:List (Nat×bq)}{i:Nat}{t:bq}{thr:List bq}(hl:l.map (·.2)=thr)(hi:thr[i]? = some t):∃p,l[i]? = some (p,t):=by
 rw [←hl,List.getElem?_map] at hi
 cases h:l[i]? with
 | none=>rw [h] at hi;cases hi
 | some q=>rw [h] at hi;cases hi;exact⟨q.1,rfl⟩
theorem A4 {l:List (Nat×bq)}{i p:Nat}{t:bq}(h:l[i]? = some (p,t)):fe (l.map (·.1)) i p:=⟨by rw [List.getElem?_map,h];rfl⟩
theorem Hq {l:List (Nat×bq)}{i p:Nat}{t:bq}(h:l[i]? = some (p,t)):i<l.length:=(List.getElem?_eq_some_iff.1 h).1
theorem Hk {l:List (Nat×bq)}{i p:Nat}{t y:bq}(h:l[i]? = some (p,t)):(l.set i (p,y)).map (·.1)=l.map (·.1):=by
 refine List.ext_getElem? fun j=>?_
 rw [List.getElem?_map,List.getElem?_map,List.getElem?_set]
 by_cases c:i=j
 ·subst c;rw [if_pos rfl,if_pos (Hq h),h];rfl
 ·rw [if_neg c]
theorem DV {l:List (Nat×bq)}{i p:Nat}{t y:bq}(h:l[i]? = some (p,t)) [dM [ob fW p y,ob (cd l9) () (l.eraseIdx i)] L M](H:G w0 (ob (cd l9) () (l.set i (p,y))::M) F):G w0 L F :=
 G.pickAll (As:=[ob fW p y,ob (cd l9) () (l.eraseIdx i)]) (by rw [Na (Hq h)] at H;exact H)
theorem Kq {l:List (Nat×bq)}{i p:Nat}{t:bq}(h:l[i]? = some (p,t)) [dM [ob fW p t,ob (cd l9) () (l.eraseIdx i)] L M](H:G w0 (ob (cd l9) () l::M) F):G w0 L F :=
 G.pickAll (As:=[ob fW p t,ob (cd l9) () (l.eraseIdx i)]) (by rw [ju h] at H;exact H)
theorem LV {i k:Nat}{s ver:Int}{l:List bq}:(iL i s ver k l).length=l.length:=by unfold iL;simp
theorem pG {i k j:Nat}{s ver:Int}{l:List bq}:(iL i s ver k l)[j]? = l[j]?.map fun u=>if j<k∧j≠i then dX u s ver else u:=by unfold iL;rw [List.getElem?_mapIdx]
theorem Jj {i:Nat}{s ver:Int}{l:List bq}:iL i s ver 0 l=l:=List.ext_getElem? fun j=>by rw [pG];cases l[j]? <;> simp
theorem OW {i:Nat}{s ver:Int}{l:List bq}:iL i s ver (i+1) l=iL i s ver i l:=List.ext_getElem? fun j=>by
 rw [pG,pG]
 congr 1
 funext u
 by_cases h:j<i
 ·rw [if_pos ⟨by omega,by omega⟩,if_pos ⟨h,by omega⟩]
 ·rw [if_neg (by omega),if_neg (by omega)]
theorem Ju {i k:Nat}{s ver:Int}{l:List bq}{u:bq}(hu:l[k]? = some u)(hk:k≠i):iL i s ver (k+1) l=(iL i s ver k l).set k (dX u s ver):=List.ext_getElem? fun j=>by
 have hlt:=(List.getElem?_eq_some_iff.1 hu).1
 rw [pG]
 by_cases h:k=j
 ·subst h
  rw [List.getElem?_set_self (by rw [LV];exact hlt),hu]
  simp [hk]
 ·rw [List.getElem?_set_ne h,pG]
  congr 1
  funext u
  by_cases h2:j<k
  ·by_cases h3:j=i
   ·rw [if_neg (by omega),if_neg (by omega)]
   ·rw [if_pos ⟨by omega,h3⟩,if_pos ⟨h2,h3⟩]
  ·rw [if_neg (by omega),if_neg (by omega)]
theorem vG (ht:uz w0){i:Nat}{t:bq}{draw:Int}(ho:QZ x i t)(hd:0≤draw)(hd2:draw≤255)[i_:au L nE b x C]
  (hK:∀sl_ ρ,cx ρ→(∀at_,t.now=some at_→tt (ao ρ at_ (ay x.mem (az t).1).2) sl_)→G w0 (C (ob nE b (if (az t).2=true then fN ρ x i t draw sl_ else jJ x i t))) (K (i64 0))):G w0 L (CP Tryz.prog VJ [ptr b 0,i64 i,.int .u8 draw] K):=by
 refine i_.useA (A':=fun z:{ s:z6×ByteArray // cx s.1∧∀at_,t.now=some at_→tt (ao s.1 at_ (ay x.mem (az t).1).2) s.2 }=>ob nE b (if (az t).2=true then fN z.1.1 x i t draw z.1.2 else jJ x i t)) (F':=fun _=>K (i64 0)) (fun M hK=>?_) (fun z=>hK z.1.2 z.1.1 z.2.1 z.2.2)
 have hK:∀sl_ ρ,cx ρ→(∀at_,t.now=some at_→tt (ao ρ at_ (ay x.mem (az t).1).2) sl_)→G w0 (ob nE b (if (az t).2=true then fN ρ x i t draw sl_ else jJ x i t)::M) (K (i64 0)):=fun sl_ ρ hρ h=>hK ⟨(ρ,sl_),hρ,h⟩
 obtain⟨ρ0,hρ0⟩:=rt
 have hsl:∃s0,∀at_,t.now=some at_→tt (ao ρ0 at_ (ay x.mem (az t).1).2) s0:=by
  cases h:t.now with
  | none=>exact⟨⟨#[]⟩,fun _ g=>(by cases g)⟩
  | some q=>exact⟨Rv (ao ρ0 q (ay x.mem (az t).1).2),fun _ g=>(by cases g;exact Hh)⟩
 obtain⟨s0,hs0⟩:=hsl
 refine td ?_
 unfold lu
 rw [lm]
 intro mp vt l hl
 obtain⟨p,hp⟩:=Po hl ho.at_
 have e:=A4 hp
 have hlt:=Hq hp
 have hll:l.length=x.thr.length:=by rw [←hl];simp
 have hf:=ho.few
 have hpk:=ho.picks
 have n1:¬(i:Int)<0:=by omega
 have n2:¬((l.map (·.1)).length:Int)≤i:=by simp;omega
 have epk:IntKind.wrap .i64 (x.picks+1)=x.picks+1:=gh (by omega) (by omega)
 refine gu ?_
 refine gf (an n1 (an n2 epk)) ?_
 refine G.take1 (cd l9) () ?_
 rw [ju hp]
 refine Fu (x:=t) ho.slots ho.run ?_
 unfold fN jJ at hK
 generalize hnx:az t=nx at hK hs0
 have hear:=ho.hear
 have hpau:=ho.pauses
 rw [hnx] at hear hpau
 obtain⟨op,d⟩:=nx
 simp only at hear hpau hK
 cases d
 ·have hK:=hK s0 ρ0 hρ0 hs0
  rw [if_neg (by decide)] at hK
  refine gg ?_
  refine E7 (x:=t) ho.jobs (hpau rfl) ?_
  repeat' (first | (with_reducible refine G.joini0 ?_) | (with_reducible refine G.joini1 ?_) | (with_reducible refine G.drew ?_) | (simp (maxSteps:=2000000) only [↓RG,RP,RB,BEq.rfl,Int.reduceEq,Int.reduceLT,Int.reduceLE,Nat.reduceEqDiff]))
  refine DV (y:=eS t) hp ?_
  refine m3 b { x with thr:=x.thr.set i (eS t),picks:=x.picks+1,last:=op,did:=false } mp vt (l.set i (p,eS t)) (Hk hp) (by rw [List.map_set,hl]) ?_
  exact hK.sub
 ·simp only [if_true] at hK
  repeat' (first | (with_reducible refine G.joini0 ?_) | (with_reducible refine G.joini1 ?_) | (with_reducible refine G.drew ?_) | (simp (maxSteps:=2000000) only [↓RG,RP,RB,BEq.rfl,Int.reduceEq,Int.reduceLT,Int.reduceLE,Nat.reduceEqDiff]))
  refine zN (m:=x.mem) (o:=op) ?_
  refine gg ?_
  refine FU ht (x:=t) (hear rfl) hd hd2 fun sl_ ρ hρ hsl=>?_
  have hK:=hK sl_ ρ hρ hsl
  refine gg ?_
  generalize thrTell ρ t (ay x.mem op).2 draw (x.picks+1) sl_=t2 at hK
  generalize (ay x.mem op).1=m2 at hK
  refine DV (y:=t2) hp ?_
  have e2:=Hk (y:=t2) hp
  have hl2:(l.set i (p,t2)).map (·.2)=x.thr.set i t2:=by rw [List.map_set,hl]
  have hq:∀k u,k≠i→(x.thr.set i t2)[k]? = some u→iO u∧∀a,u.now=some a→a.rd.length≤1000:=fun k u hk h=>by
   rw [List.getElem?_set_ne (fun g=>hk g.symm)] at h
   exact ho.others k u h hk
  have hll2:(l.set i (p,t2)).length=l.length:=by simp
  generalize l.set i (p,t2)=l2 at e2 hl2 hll2
  have hfin:∀(l3:List (Nat×bq)) (thr3:List bq),l3.map (·.1)=l.map (·.1)→l3.map (·.2)=thr3→G w0 (ob nE b { x with mem:=m2,thr:=thr3,picks:=x.picks+1,last:=op,did:=true }::M) (K (i64 0))→G w0 (ob (cd l9) () l3::own b (io.cells { x with mem:=m2,picks:=x.picks+1 } mp vt op true)::ob uc mp m2::sl i0 vt (l.map (·.1))::M) (K (i64 0)):=fun l3 thr3 g1 g2 g3=>by
   refine m3 b { x with mem:=m2,thr:=thr3,picks:=x.picks+1,last:=op,did:=true } mp vt l3 g1 g2 ?_
   exact g3.sub
  by_cases c5:op.kind=5
  ·rw [if_pos c5] at hK
   have hlen3:(x.thr.set i t2).length=l.length:=by simp [hll]
   rw [←hll] at hK
   generalize x.thr.set i t2=thr2 at hK hl2 hq hlen3
   refine eC (eq_true c5) ?_
   refine G.loop1 (σ:=Nat×List (Nat×bq)) (fun z=>i64 z.1) (fun z=>ob (cd l9) () z.2::own b (io.cells { x with mem:=m2,picks:=x.picks+1 } mp vt op true)::ob uc mp m2::sl i0 vt (l.map (·.1))::M)
    (fun z=>z.1≤l.length∧z.2.map (·.1)=l.map (·.1)∧z.2.map (·.2)=iL i op.place op.lock.version z.1 thr2) (fun z=>l.length-z.1) (0,l2) rfl rfl ⟨Nat.zero_le _,e2,by rw [Jj];exact hl2⟩ ?_
   rintro⟨k,l3⟩ ⟨hk,g1,g2⟩ J hJ
   simp only at hk g1 g2 hJ ⊢
   have hlen:l3.length=l.length:=by have:=congrArg List.length g1;simpa using this
   refine gr ?_
   refine G.cond (fun h=>?_) (fun h=>?_)
   ·have hk2:k<l.length:=by simpa using h
    have hk3:k<l3.length:=by omega
    rcases hu:l3[k] with ⟨pk,u⟩
    have hk4:l3[k]? = some (pk,u):=by rw [List.getElem?_eq_getElem hk3,hu]
    have ek:fe (l.map (·.1)) k pk:=by rw [←g1];exact A4 hk4
    have hu2:thr2[k]? = some u:=by
     have h1:(l3.map (·.2))[k]? = some u:=by rw [List.getElem?_map,hk4];rfl
     rw [g2,pG] at h1
     cases ht:thr2[k]? with
     | none=>rw [ht] at h1;cases h1
     | some u2=>rw [ht] at h1;simpa using h1
    by_cases ci:k=i
    ·subst ci
     have hn:=hJ (k+1,l3) ⟨hk2,g1,by rw [g2,OW]⟩ (by simp only;omega)
     refine gg ?_
     rw [dx (by omega)]
     exact hn.sub
    ·have ci2:¬(k:Int)=i:=by omega
     obtain⟨j1,j2⟩:=hq k _ ci hu2
     have hn:=hJ (k+1,l3.set k (pk,dX u op.place op.lock.version)) ⟨hk2,by rw [Hk hk4,g1],by rw [List.map_set,g2,Ju hu2 ci]⟩ (by simp only;omega)
     repeat' (first | (with_reducible refine G.joini0 ?_) | (with_reducible refine G.joini1 ?_) | (with_reducible refine G.drew ?_) | (simp (maxSteps:=2000000) only [↓RG,RP,RB,BEq.rfl,Int.reduceEq,Int.reduceLT,Int.reduceLE,Nat.reduceEqDiff,ci2]))
     refine G.take1 (cd l9) () ?_
     rw [ju hk4]
     refine FE (x:=u) j1 j2 ?_
     rw [dx (by omega)]
     refine DV (y:=dX u op.place op.lock.version) hk4 ?_
     exact hn.sub
   ·have hk2:k=l.length:=by
     have:¬k<l.length:=by simpa using h
     omega
    refine gr ?_
    refine G.sub (hfin l3 (iL i op.place op.lock.version l.length thr2) g1 (by rw [g2,hk2]) hK)
  ·rw [if_neg c5] at hK
   refine eC c5 ?_
   exact(hfin l2 _ e2 hl2 hK).sub
theorem AG [i:au L nE b x C](hK:G w0 L (K (i64 x.thr.length))):G w0 L (CP Tryz.prog XE [ptr b 0] K):=by
 refine i.ro (fun M hK=>?_) hK
 refine qH ?_
 unfold jR
 rw [lm] at *
 intro mp vt l hl
 have hK:=hK mp vt l hl
 have e:((l.map (·.1)).length:Int)=x.thr.length:=by rw [←hl];simp
 refine eC e ?_
 exact hK
theorem Ep [i:au L nE b x C](hK:G w0 L (K (.tuple #[.agg #[i64 x.last.kind,i64 x.last.place,u64 x.last.old,u64 x.last.word,u64 x.last.was.version,.bool x.last.was.held,i64 x.last.was.owner,u64 x.last.lock.version,.bool x.last.lock.held,i64 x.last.lock.owner],.bool x.did]))) :
  G w0 L (CP Tryz.prog XA [ptr b 0] K):=by
 refine i.ro (fun M hK=>?_) hK
 refine tB ?_
 unfold lN
 rw [lm] at *
 intro mp vt l hl
 have hK:=hK mp vt l hl
 refine gr ?_
 refine G.new fun q=>?_
 repeat' (first | (with_reducible refine G.joini0 ?_) | (with_reducible refine G.joini1 ?_) | (with_reducible refine G.drew ?_) | (simp (maxSteps:=2000000) only [↓RG,RP,RB,BEq.rfl,Int.reduceEq,Int.reduceLT,Int.reduceLE,Nat.reduceEqDiff]))
 exact hK.sub
theorem tU (hl:x.mem.w.length≤1000000)[i:au L nE b x C](hK:∀u,bf u [u]→G w0 (sl dd u x.mem.w::L) (K u)):G w0 L (CP Tryz.prog Ws [ptr b 0] K):=by
 refine i.roN (fun M hK=>?_) hK
 refine sG ?_
 unfold kU
 rw [lm]
 intro mp vt l h
 refine gr ?_
 refine CT (m:=x.mem) hl fun u hu=>?_
 refine m3 b x mp vt l rfl h ?_
 exact(hK u hu).sub
def sS:List bq→Bool
 | []=>true
 | t::l=>(decide (t.state=6) || decide (t.state=4)) && sS l
theorem CY (hf:x.thr.length≤4)[i:au L nE b x C](hK:G w0 L (K (.bool (sS x.thr)))):G w0 L (CP Tryz.prog XF [ptr b 0] K):=by
 refine i.ro (fun M hK=>?_) hK
 refine sA ?_
 unfold kR
 rw [lm] at *
 intro mp vt l hl
 have hK:=hK mp vt l hl
 have hll:l.length=x.thr.length:=by rw [←hl];simp
 refine gr ?_
 refine G.loop1 (fun k:Nat=>i64 k) (fun k=>own b (x.cells mp vt x.last x.did)::ob uc mp x.mem::sl i0 vt (l.map (·.1))::ob (cd l9) () l::M) (fun k=>k≤l.length∧sS x.thr=sS (x.thr.drop k)) (fun k=>l.length-k) 0 rfl rfl (by simp) ?_
 intro k ⟨hk,hr⟩ J hJ
 refine gr ?_
 refine G.cond (fun h=>?_) (fun h=>?_)
 ·have hk2:k<l.length:=by simpa using h
  rcases hu:l[k] with ⟨pk,u⟩
  have hk4:l[k]? = some (pk,u):=by rw [List.getElem?_eq_getElem hk2,hu]
  have ek:fe (l.map (·.1)) k pk:=A4 hk4
  have hd:x.thr.drop k=u::x.thr.drop (k+1):=by
   have ht:x.thr[k]? = some u:=by rw [←hl,List.getElem?_map,hk4];rfl
   obtain⟨g1,g2⟩:=List.getElem?_eq_some_iff.1 ht
   rw [List.drop_eq_getElem_cons g1,g2]
  rw [hd,show sS (u::x.thr.drop (k+1))=((decide (u.state=6) || decide (u.state=4)) && sS (x.thr.drop (k+1))) from rfl] at hr
  refine gu ?_
  refine gr ?_
  refine G.take1 (cd l9) () ?_
  rw [ju hk4]
  refine Dn (x:=u) ?_
  rw [←ju hk4]
  by_cases c6:u.state=6
  ·have hn:=hJ (k+1) ⟨hk2,by rw [hr];simp [c6]⟩ (by omega)
   refine eC c6 ?_
   rw [dx (by omega)]
   exact hn.sub
  ·by_cases c4:u.state=4
   ·have hn:=hJ (k+1) ⟨hk2,by rw [hr];simp [c4]⟩ (by omega)
    refine eC (an c6 c4) ?_
    rw [dx (by omega)]
    exact hn.sub
   ·have e:sS x.thr=false:=by rw [hr];simp [c6,c4]
    rw [e] at hK
    refine eC (an c6 c4) ?_
    exact hK.sub
 ·have hk2:k=x.thr.length:=by
   have:¬k<l.length:=by simpa using h
   omega
  have e:sS x.thr=true:=by rw [hr,hk2,List.drop_length];rfl
  rw [e] at hK
  refine gr ?_
  exact hK
theorem zI {i:Nat}{t:bq}(hi:x.thr[i]? = some t)(hf:x.thr.length≤4)(hl:t.res.length≤1000000)[i_:au L nE b x C](hK:∀u,bf u [u]→G w0 (sl il u t.res::L) (K u)):G w0 L (CP Tryz.prog XD [ptr b 0,i64 i] K):=by
 refine i_.roN (fun M hK=>?_) hK
 refine qI ?_
 unfold jO
 refine uS ?_
 unfold oF
 rw [lm]
 intro mp vt l h
 obtain⟨p,hp⟩:=Po h hi
 have e:=A4 hp
 have hlt:=Hq hp
 have n1:¬(i:Int)<0:=by omega
 have n2:¬((l.map (·.1)).length:Int)≤i:=by simp;omega
 refine gu ?_
 refine gf (an n1 n2) ?_
 refine G.take1 (cd l9) () ?_
 rw [ju hp]
 refine Bf (x:=t) hl fun u hu=>?_
 refine Kq hp ?_
 refine m3 b x mp vt l rfl h ?_
 exact(hK u hu).sub
theorem LK {α:Type}{f:α→bd}{l l2:List α}:G w0 (ob (cd f) () (l++l2)::M) F=G w0 (ob (cd f) () l::ob (cd f) () l2::M) F:=by
 rw [em,em,em,←ez]
 unfold cd
 rw [List.map_append,sP]
theorem qA (ht:uz w0)(hs:∀t∈x.thr,t.past.length≤1000000∧(t.state=1→∃a,t.now=some a∧Cr a))(hf:x.thr.length≤4)[i:au L nE b x C](hK:∀u,bf u [u]→G w0 (ob jn u (jN x)::L) (K u)):G w0 L (CP Tryz.prog Wt [ptr b 0] K):=by
 refine i.roN (fun M hK=>?_) hK
 refine qf ?_
 unfold jv
 rw [lm]
 intro mp vt l hl
 have hll:l.length=x.thr.length:=by rw [←hl];simp
 have htl:∀t∈x.thr,(dh t).length≤1000001:=fun t h=>by
  have h1:=(hs t h).1
  by_cases c:t.state=1
  ·obtain⟨a,ha,_⟩:=(hs t h).2 c
   have e:dh t=t.past++(if a.begun=true then [eP a t.born 0] else []):=by unfold dh;rw [if_pos c,ha]
   rw [e,List.length_append]
   split <;> simp <;> omega
  ·have e:dh t=t.past:=by unfold dh;rw [if_neg c,List.append_nil]
   rw [e];omega
 refine gr ?_
 refine G.nilsl fg ?_
 refine lI (f:=dV) ?_
 refine G.loop2 (σ:=Nat×List fS×Value) (fun z=>z.2.2) (fun z=>i64 z.1) (fun z=>ob (cd dV) () z.2.1::sl fg z.2.2 (z.2.1.map (·.1))::own b (x.cells mp vt x.last x.did)::ob uc mp x.mem::sl i0 vt (l.map (·.1))::ob (cd l9) () l::M)
  (fun z=>z.1≤l.length∧z.2.1.map (·.2.1)=(x.thr.take z.1).flatMap dh∧(∀p∈z.2.1,tP p)∧z.2.1.length≤z.1*1000001∧bf z.2.2 [z.2.2]) (fun z=>l.length-z.1) (0,[],.slice none 0 0) rfl rfl rfl ⟨Nat.zero_le _,rfl,by simp,Nat.zero_le _,bm⟩ ?_
 rintro⟨k,ys,vy⟩ ⟨hk,hy,hy3,hy2,hvy⟩ J hJ
 simp only at hk hy hy2 hy3 hvy hJ ⊢
 refine gr ?_
 refine G.cond (fun h=>?_) (fun h=>?_)
 ·have hk2:k<l.length:=by simpa using h
  rcases hu:l[k] with ⟨pk,u⟩
  have hk4:l[k]? = some (pk,u):=by rw [List.getElem?_eq_getElem hk2,hu]
  have ek:fe (l.map (·.1)) k pk:=A4 hk4
  have ht2:x.thr[k]? = some u:=by rw [←hl,List.getElem?_map,hk4];rfl
  obtain⟨g1,g2⟩:=List.getElem?_eq_some_iff.1 ht2
  have hmem:=List.mem_of_getElem? ht2
  obtain⟨hs1,hs2⟩:=hs u hmem
  have hlu:=htl u hmem
  refine gr ?_
  refine G.take1 (cd l9) () ?_
  rw [ju hk4]
  refine A1 ht (x:=u) hs1 hs2 fun w hw=>?_
  rw [kT]
  intro zs hzs
  refine Kq hk4 ?_
  have hzl:zs.length=(dh u).length:=by rw [←hzs.1];simp
  refine G.append (E:=fg) (xs:=ys.map fun z:fS=>z.1) (ys:=zs.map fun z:fS=>z.1) (by simp only [List.length_map];omega) (by simp only [List.length_map,maxLen];omega) fun u5 h5=>?_
  refine gr ?_
  rw [dx (by omega)]
  have hn:=hJ (k+1,ys++zs,u5) ⟨hk2,by rw [List.map_append,hy,hzs.1,List.take_succ_eq_append_getElem (by omega),List.flatMap_append,g2];simp,fun p hp=>by
   rcases List.mem_append.1 hp with hp | hp
   ·exact hy3 p hp
   ·exact hzs.2 p hp,by simp only [List.length_append];omega,h5⟩ (by simp only;omega)
  simp only [List.map_append] at hn
  refine G.pickAll (As:=[ob (cd dV) () ys,ob (cd dV) () zs]) ?_
  simp only [List.cons_append,List.nil_append]
  rw [←LK]
  exact hn.sub
 ·have hk2:k=x.thr.length:=by
   have:¬k<l.length:=by simpa using h
   omega
  refine gr ?_
  refine wL vy ys ⟨by rw [hy,hk2,List.take_length],hy3⟩ ?_
  refine m3 b x mp vt l rfl hl ?_
  exact(hK vy hvy).sub
abbrev qP (p:kx×List (List dv)):bd:=ob iu p.1.v p.2
def G7 (v:Value)(rows:List (List (List dv))):bd:=od fun l:List (kx×List (List dv))=>bt (gX (l.map (·.2)=rows)) (bt (sl eu v (l.map (·.1))) (ob (cd qP) () l))
theorem BK {rows:List (List (List dv))}:G w0 (ob G7 v rows::M) F=∀l:List (kx×List (List dv)),l.map (·.2)=rows→G w0 (sl eu v (l.map (·.1))::ob (cd qP) () l::M) F:=by
 rw [em,G7]
 simp only [qm,ez,fI]
theorem F0 {n:Int}(hK:∀u,bf u [u]→G w0 (sl dd u ((List.replicate (held n 32 256).toNat 0).set 5 14)::L) (K u)):G w0 L (CP Tryz.prog XH [i64 n] K):=by
 refine Fx ?_
 unfold xM
 have e:(if (if (256:Int)<n then 256 else n) > 32 then (if (256:Int)<n then 256 else n) else 32)=held n 32 256:=jG (by decide)
 have hh:=eI (n:=n) (lo:=32) (hi:=256) (by decide)
 refine eC e ?_
 obtain⟨j,hj⟩:∃j:Nat,held n 32 256=j:=⟨(held n 32 256).toNat,by omega⟩
 have h1:32≤j:=by omega
 have h2:j≤256:=by omega
 rw [hj] at hK ⊢
 simp only [Int.toNat_natCast] at hK
 refine G.make dd 0 rfl (by simp only [maxLen];omega) (by omega) fun u hu=>?_
 have e5:fe (List.replicate j (0:Int)) 5 0:=⟨by rw [List.getElem?_replicate,if_pos (by omega)]⟩
 refine gr ?_
 exact hK u hu
theorem tv {s:dr}{r:List (List dv)}:∀{l:List (List (List dv))}{i:Nat},iC s i (l++[r])=iC s i l++[j5 ((i+l.length:Nat):Int) s r]
 | [],i=>rfl
 | a::l,i=>by
  rw [List.cons_append,iC,iC,tv,List.cons_append]
  congr 4
  simp only [List.length_cons];omega
theorem Rh {l:List (kx×List (List dv))}{i:Nat}{q:kx×List (List dv)}(h:l[i]? = some q) [dM [ob iu q.1.v q.2,ob (cd qP) () (l.eraseIdx i)] L M](H:G w0 (ob (cd qP) () l::M) F):G w0 L F :=
 G.pickAll (As:=[ob iu q.1.v q.2,ob (cd qP) () (l.eraseIdx i)]) (by rw [ju h] at H;exact H)
theorem Nb (v:Value)(l:List (kx×List (List dv))){ps:List kx}{rs:List (List (List dv))}(hp:l.map (·.1)=ps)(hr:l.map (·.2)=rs) [dM [sl eu v ps,ob (cd qP) () l] L M](H:G w0 (ob G7 v rs::M) F):G w0 L F :=
 G.pickAll (As:=[sl eu v ps,ob (cd qP) () l]) (by rw [BK] at H;have:=H l hr;rw [hp] at this;exact this)
theorem Da (v:Value)(l:List (kx×List dv)){ps:List kx}{rs:List (List dv)}(hp:l.map (·.1)=ps)(hr:l.map (·.2)=rs) [dM [sl eu v ps,ob (cd pR) () l] L M](H:G w0 (ob iu v rs::M) F):G w0 L F :=
 G.pickAll (As:=[sl eu v ps,ob (cd pR) () l]) (by rw [pI] at H;have:=H l hr;rw [hp] at this;exact this)
def BQ:List (List (List dv))→List (List (List dv))
 | []=>[[]]
 | r::l=>r::l
theorem GJ {l:List (List (List dv))}(h:0<l.length):BQ l=l:=by cases l with | nil=>cases h | cons r l=>rfl
theorem yn {s:dr}{rows:List (List (List dv))}(h4:rows.length≤4)(hr:∀r∈rows,r.length≤6∧∀p∈r,jb p)[i:au L G7 v rows C](hv:bf v [v])
  (hK:∀b,G w0 (ob nE b (dc s (BQ rows))::L) (K (ptr b 0))):G w0 L (CP Tryz.prog Wq [.agg (dr.cells s).toArray,v] K):=by
 refine i.roN (P:=fun _=>True) (N:=fun b=>ob nE b (dc s (BQ rows))) (F':=fun b=>K (ptr b 0)) (fun M hK=>?_) (fun b _=>hK b)
 refine FC ?_
 unfold yl
 obtain⟨S,hS⟩:∃S,dj { s with threads:=(rows.length:Int) }=S:=⟨_,rfl⟩
 have hSS:dj S=S:=by rw [←hS];exact tF _
 have hw:=eI (n:=s.words) (lo:=32) (hi:=256) (by decide)
 have hSw:S.words=held s.words 32 256:=by rw [←hS];rfl
 obtain⟨R,hR⟩:∃R,BQ rows=R:=⟨_,rfl⟩
 have hRc:(R=rows∧0<rows.length)∨(rows=[]∧R=[[]]):=by
  rw [←hR]
  cases rows with
  | nil=>exact .inr ⟨rfl,rfl⟩
  | cons r l=>exact .inl ⟨rfl,by simp⟩
 have hSR:dj { s with threads:=(R.length:Int) }=S:=by
  rw [←hS]
  rcases hRc with ⟨e,_⟩ | ⟨e1,e2⟩
  ·rw [e]
  ·rw [e1,e2];rfl
 have hR4:R.length≤4:=by rcases hRc with ⟨e,_⟩ | ⟨e1,e2⟩;rw [e];exact h4;rw [e2];decide
 have hSt:S.threads=R.length:=by
  rw [←hSR]
  show held (R.length:Int) 1 4=_
  have:0<R.length:=by rcases hRc with ⟨e,h⟩ | ⟨e1,e2⟩;rw [e];exact h;rw [e2];decide
  unfold held;rw [if_neg (by omega),if_neg (by omega)]
 rw [hR] at hK
 simp only [dc,cq,hSR] at hK
 rw [BK]
 intro l hl
 have hlen:l.length=rows.length:=by rw [←hl];simp
 refine G.box fun q=>?_
 have hc:(if ((4:Int)<((l.map (·.1)).length:Int)) then 4 else ((l.map (·.1)).length:Int))=((l.map (·.1)).length:Int):=by rw [if_neg (by simp;omega)]
 refine gf hc ?_
 refine G.sliceAll ?_
 have hlm:((l.map (·.1)).length:Int)=rows.length:=by simp [hlen]
 refine gf hlm ?_
 refine pN (s:={ s with threads:=rows.length }) ?_
 rw [hS]
 repeat' (first | (with_reducible refine G.joini0 ?_) | (with_reducible refine G.joini1 ?_) | (with_reducible refine G.drew ?_) | (simp (maxSteps:=2000000) only [↓RG,RP,RB,BEq.rfl,Int.reduceEq,Int.reduceLT,Int.reduceLE,Nat.reduceEqDiff]))
 refine OZ (s:=S.shape) fun mp=>?_
 generalize lS S.shape=m0 at hK ⊢
 refine gg ?_
 refine G.box fun b=>?_
 refine gg ?_
 refine F0 fun u hu=>?_
 obtain⟨n,hn⟩:∃n,(held S.words 32 256).toNat=n:=⟨_,rfl⟩
 have hn1:32≤n:=by rw [←hn,hSw,fA (by decide)];omega
 have hn2:n≤256:=by rw [←hn,hSw,fA (by decide)];omega
 rw [hn]
 have hwl:((List.replicate n (0:Int)).set 5 14).length=n:=by simp
 refine gg ?_
 refine G.loop1 (fun k:Nat=>i64 k) (fun k=>sl dd u ((List.replicate n 0).set 5 14)::own b (io.cells ⟨S,m0,[],0,⟨0,0,0,0,⟨0,false,0⟩,⟨0,false,0⟩⟩,false⟩ mp (.slice none 0 0) ⟨0,0,0,0,⟨0,false,0⟩,⟨0,false,0⟩⟩ false)::ob uc mp (kC m0 k)::own q (dr.cells S)::sl eu v (l.map (·.1))::ob (cd qP) () l::M)
  (fun k=>k≤n) (fun k=>n-k) 0 rfl rfl (by simp) ?_
 intro k hk J hJ
 refine eC hwl ?_
 refine G.cond (fun h=>?_) (fun h=>?_)
 ·have hk2:k<n:=by simpa using h
  have hn3:=hJ (k+1) hk2 (by omega)
  by_cases c5:k=5
  ·have e:fe ((List.replicate n (0:Int)).set 5 14) k 14:=⟨by rw [c5,List.getElem?_set_self (by simp;omega)]⟩
   have ek:kC m0 k=m0∧kC m0 (k+1)=(ay m0 ⟨2,k,0,14,ae,ae⟩).1:=by subst c5;exact⟨rfl,rfl⟩
   rw [ek.2] at hn3
   rw [ek.1]
   repeat' (first | (with_reducible refine G.joini0 ?_) | (with_reducible refine G.joini1 ?_) | (with_reducible refine G.drew ?_) | (simp (maxSteps:=2000000) only [↓RG,RP,RB,BEq.rfl,Int.reduceEq,Int.reduceLT,Int.reduceLE,Nat.reduceEqDiff]))
   refine zN (m:=m0) (o:=⟨2,k,0,14,ae,ae⟩) ?_
   repeat' (first | (with_reducible refine G.joini0 ?_) | (with_reducible refine G.joini1 ?_) | (with_reducible refine G.drew ?_) | (simp (maxSteps:=2000000) only [↓RG,RP,RB,BEq.rfl,Int.reduceEq,Int.reduceLT,Int.reduceLE,Nat.reduceEqDiff]))
   rw [dx (by omega)]
   exact hn3.sub
  ·have e:fe ((List.replicate n (0:Int)).set 5 14) k 0:=⟨by rw [List.getElem?_set_ne (fun g=>c5 g.symm),List.getElem?_replicate,if_pos hk2]⟩
   have ef:kC m0 (k+1)=kC m0 k:=by
    unfold kC
    by_cases c:k≤5
    ·rw [if_pos (by omega),if_pos c]
    ·rw [if_neg (by omega),if_neg c]
   rw [ef] at hn3
   refine gg ?_
   rw [dx (by omega)]
   exact hn3.sub
 ·have hk2:k=n:=by
   have:¬k<n:=by simpa using h
   omega
  have ef:kC m0 k=kC m0 6:=by unfold kC;rw [if_neg (by omega),if_neg (by omega)]
  rw [ef]
  generalize kC m0 6=m1 at hK ⊢
  refine gg ?_
  refine G.nilsl i0 ?_
  refine lI (f:=l9) ?_
  refine G.loop1 (σ:=Nat×List (Nat×bq)×Value) (fun z=>i64 z.1) (fun z=>ob (cd l9) () z.2.1::sl i0 z.2.2 (z.2.1.map (·.1))::sl dd u ((List.replicate n 0).set 5 14)::own b (io.cells ⟨S,m1,[],0,⟨0,0,0,0,⟨0,false,0⟩,⟨0,false,0⟩⟩,false⟩ mp z.2.2 ⟨0,0,0,0,⟨0,false,0⟩,⟨0,false,0⟩⟩ false)::ob uc mp m1::own q (dr.cells S)::sl eu v (l.map (·.1))::ob (cd qP) () l::M)
   (fun z=>z.1≤R.length∧z.2.1.map (·.2)=iC S 0 (R.take z.1)∧z.2.1.length=z.1∧bf z.2.2 [z.2.2]) (fun z=>R.length-z.1) (0,[],.slice none 0 0) rfl rfl ⟨Nat.zero_le _,rfl,rfl,bm⟩ ?_
  rintro⟨j,l',vt⟩ ⟨hj,hl',hl2,hvt⟩ J hJ
  simp only at hj hl' hl2 hvt hJ ⊢
  refine gr ?_
  refine G.cond (fun h=>?_) (fun h=>?_)
  ·have hj2:j<R.length:=by simp only [decide_eq_true_eq] at h;omega
   by_cases hj3:j<rows.length
   ·have hj0:0<rows.length:=by omega
    have hRr:R=rows:=by rw [←hR];exact GJ hj0
    have hk4:l[j]? = some l[j]:=List.getElem?_eq_getElem (by omega)
    have e:fe (l.map (·.1)) j l[j].1:=⟨by rw [List.getElem?_map,hk4];rfl⟩
    have hq0:l[j].2=rows[j]:=by simp only [←hl,List.getElem_map]
    have hq:R[j]=l[j].2:=by rw [hq0];simp only [hRr]
    have hrj:=hr _ (List.getElem_mem hj3)
    have c:(j:Int)<((l.map (·.1)).length:Int):=by simp;omega
    repeat' (first | (with_reducible refine G.joini0 ?_) | (with_reducible refine G.joini1 ?_) | (with_reducible refine G.drew ?_) | (simp (maxSteps:=2000000) only [↓RG,RP,RB,BEq.rfl,Int.reduceEq,Int.reduceLT,Int.reduceLE,Nat.reduceEqDiff,c]))
    refine G.take1 (cd qP) () ?_
    rw [ju hk4]
    refine AP (me:=(j:Int)) (s:=S) (jobs:=l[j].2) (by omega) (by rw [hSS,hSt];omega) (by rw [hq0];exact hrj.1) (by rw [hq0];exact hrj.2) fun tp=>?_
    refine gg ?_
    refine G.build i0 [tp] rfl (by decide) rfl fun y hy=>?_
    refine gg ?_
    refine G.append (E:=i0) (xs:=l'.map (fun z:Nat×bq=>z.1)) (ys:=[tp]) (by simp only [List.length_map,List.length_singleton];omega) (by simp only [List.length_map,List.length_singleton,maxLen];omega) fun u5 h5=>?_
    refine gg ?_
    rw [dx (by omega)]
    have hn:=hJ (j+1,l'++[(tp,j5 j S l[j].2)],u5) ⟨hj2,by rw [List.map_append,hl',List.take_succ_eq_append_getElem hj2,tv,hq,List.length_take];simp only [List.map_cons,List.map_nil];congr 3;omega,by simp [hl2],h5⟩ (by simp only;omega)
    simp only [List.map_append,List.map_cons,List.map_nil] at hn
    refine Rh hk4 ?_
    refine G.pickAll (As:=[ob fW tp (j5 j S l[j].2),ob (cd l9) () l']) ?_
    rw [show [ob fW tp (j5 j S l[j].2),ob (cd l9) () l']=[l9 (tp,j5 j S l[j].2),ob (cd l9) () l'] from rfl,List.cons_append,List.cons_append,List.nil_append,←iU]
    exact hn.sub
   ·obtain⟨e1,e2⟩:rows=[]∧R=[[]]:=hRc.resolve_left fun g=>hj3 (by rw [←g.1];exact hj2)
    have hq:R[j]=[]:=by
     have:∀p∈R,p=[]:=by rw [e2];simp
     exact this _ (List.getElem_mem _)
    have c:¬(j:Int)<((l.map (·.1)).length:Int):=by simp;omega
    repeat' (first | (with_reducible refine G.joini0 ?_) | (with_reducible refine G.joini1 ?_) | (with_reducible refine G.drew ?_) | (simp (maxSteps:=2000000) only [↓RG,RP,RB,BEq.rfl,Int.reduceEq,Int.reduceLT,Int.reduceLE,Nat.reduceEqDiff,c]))
    refine G.nilsl eu ?_
    refine lI (f:=pR) ?_
    refine Da (.slice none 0 0) [] (ps:=[]) (rs:=[]) rfl rfl ?_
    refine AP (me:=(j:Int)) (s:=S) (jobs:=[]) (by omega) (by rw [hSS,hSt];omega) (by decide) (by simp) fun tp=>?_
    refine gg ?_
    refine G.build i0 [tp] rfl (by decide) rfl fun y hy=>?_
    refine gg ?_
    refine G.append (E:=i0) (xs:=l'.map (fun z:Nat×bq=>z.1)) (ys:=[tp]) (by simp only [List.length_map,List.length_singleton];omega) (by simp only [List.length_map,List.length_singleton,maxLen];omega) fun u5 h5=>?_
    refine gg ?_
    rw [dx (by omega)]
    have hn:=hJ (j+1,l'++[(tp,j5 j S [])],u5) ⟨hj2,by rw [List.map_append,hl',List.take_succ_eq_append_getElem hj2,tv,hq,List.length_take];simp only [List.map_cons,List.map_nil];congr 3;omega,by simp [hl2],h5⟩ (by simp only;omega)
    simp only [List.map_append,List.map_cons,List.map_nil] at hn
    refine G.pickAll (As:=[ob fW tp (j5 j S []),ob (cd l9) () l']) ?_
    rw [show [ob fW tp (j5 j S []),ob (cd l9) () l']=[l9 (tp,j5 j S []),ob (cd l9) () l'] from rfl,List.cons_append,List.cons_append,List.nil_append,←iU]
    exact hn.sub
  ·have hj2:j=R.length:=by
    simp only [decide_eq_false_iff_not] at h
    omega
   refine gr ?_
   refine m3 b ⟨S,m1,iC S 0 R,0,⟨0,0,0,0,⟨0,false,0⟩,⟨0,false,0⟩⟩,false⟩ mp vt l' rfl (by rw [hl',hj2,List.take_length]) ?_
   have h2:=hK b trivial
   rw [fC,BK] at h2
   exact(h2 l hl).sub
end
end Go.Proofs.YtoealglbimbbmaaGreatDoor.S
