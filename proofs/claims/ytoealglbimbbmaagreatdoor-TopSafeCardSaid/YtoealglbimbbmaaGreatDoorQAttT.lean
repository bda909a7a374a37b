import Derived.Test.YtoealglbimbbmaaGreatDoorQPr
namespace Go.Proofs.YtoealglbimbbmaaGreatDoor.S
open Go Go.Proofs
set_option linter.unusedVariables false
set_option linter.unusedSimpArgs false
def gy (k:Value×Value×Value×Value):rG→bd
 | .none=>gX (k.2.2.2=.pointer none)
 | .fetch f=>od fun p=>bt (gX (k.1=.iface 215 (ptr p 0)∧k.2.1=ptr p 0∧k.2.2.2=.pointer none)) (ob jm p f)
 | .ext x=>od fun p=>bt (gX (k.1=.iface 216 (ptr p 0)∧k.2.2.1=ptr p 0∧k.2.2.2=.pointer none)) (ob yU p x)
 | .com x=>od fun p=>bt (gX (k.1=.iface 217 (ptr p 0)∧k.2.2.2=ptr p 0)) (ob ip p x)
abbrev bi.cells (x:bi)(iv vf ve vc:Value)(vr vb:Value)(pv pq:Nat):List Value:=[i64 x.me,i64 x.s.words,i64 x.s.stripes,i64 x.s.wide,i64 x.s.threads,u64 x.s.start,i64 x.s.spins,i64 x.s.writes,i64 x.s.fuel,vr,vb,i64 x.given,ptr pv 0,ptr pq 0,i64 x.state,iv,vf,ve,vc,.bool x.begun,u64 x.beg,u64 x.stamp,i64 x.fin,i64 x.by_,i64 x.err,.bool x.blocking]
def km (k:Value×Nat):Option dw→bd
 | none=>gX (k.1=.pointer none)
 | some r=>od fun p=>bt (gX (k.1=ptr p 0)) (ob g9 (p,k.2) r)
def eA (b:Nat)(x:bi):bd:=od fun iv=>od fun vf=>od fun ve=>od fun vc=>od fun vr=>od fun vb=>od fun pv=>od fun pq=>bt (bt (bt (bt (bt (own b (x.cells iv vf ve vc vr vb pv pq)) (ob km (vr,pv) x.run)) (sl bx vb x.blocks)) (ob cY pv x.v)) (ob fb pq (16,x.rd))) (ob gy (iv,vf,ve,vc) x.inn)
section
variable {w0:bo}{L M:List bd}{K:KV}{F:World→Prop}{C:bd→List bd}{b pv pq:Nat}{x:bi}{v iv vf ve vc vr vb:Value}
theorem cn:G w0 (ob eA b x::M) F=∀iv vf ve vc vr vb pv pq,G w0 (own b (x.cells iv vf ve vc vr vb pv pq)::ob km (vr,pv) x.run::sl bx vb x.blocks::ob cY pv x.v::ob fb pq (16,x.rd)::ob gy (iv,vf,ve,vc) x.inn::M) F:=by
 rw [em,eA]
 simp only [qm,ez]
theorem dL (b:Nat)(x:bi)(iv vf ve vc:Value)(vr vb:Value)(pv pq:Nat) [dM [own b (x.cells iv vf ve vc vr vb pv pq),ob km (vr,pv) x.run,sl bx vb x.blocks,ob cY pv x.v,ob fb pq (16,x.rd),ob gy (iv,vf,ve,vc) x.inn] L M](H:G w0 (ob eA b x::M) F):G w0 L F :=
 G.pickAll (As:=[own b (x.cells iv vf ve vc vr vb pv pq),ob km (vr,pv) x.run,sl bx vb x.blocks,ob cY pv x.v,ob fb pq (16,x.rd),ob gy (iv,vf,ve,vc) x.inn]) (by rw [cn] at H;exact H iv vf ve vc vr vb pv pq)
theorem A5:G w0 (ob km (vr,pv) none::M) F=(vr=.pointer none→G w0 M F):=by rw [em,km];simp only [fI]
theorem zD {r:dw}:G w0 (ob km (vr,pv) (some r)::M) F=∀p,vr=ptr p 0→G w0 (ob g9 (p,pv) r::M) F:=by rw [em,km];simp only [qm,ez,fI]
theorem z9 (p pv:Nat)(r:dw) [dM [ob g9 (p,pv) r] L M](H:G w0 (ob km (ptr p 0,pv) (some r)::M) F):G w0 L F :=
 G.pickAll (As:=[ob g9 (p,pv) r]) (by rw [zD] at H;exact H p rfl)
theorem C7 (pv:Nat)(H:G w0 (ob km (.pointer none,pv) none::M) F):G w0 M F:=by rw [A5] at H;exact H rfl
theorem vK:G w0 (ob gy (iv,vf,ve,vc) .none::M) F=(vc=.pointer none→G w0 M F):=by
 rw [em,gy];simp only [fI]
theorem jL {f:fj}:G w0 (ob gy (iv,vf,ve,vc) (.fetch f)::M) F=∀p,(iv=.iface 215 (ptr p 0)∧vf=ptr p 0∧vc=.pointer none)→G w0 (ob jm p f::M) F:=by
 rw [em,gy];simp only [qm,ez,fI]
theorem pp {f:ux}:G w0 (ob gy (iv,vf,ve,vc) (.ext f)::M) F=∀p,(iv=.iface 216 (ptr p 0)∧ve=ptr p 0∧vc=.pointer none)→G w0 (ob yU p f::M) F:=by
 rw [em,gy];simp only [qm,ez,fI]
theorem pE {f:dP}:G w0 (ob gy (iv,vf,ve,vc) (.com f)::M) F=∀p,(iv=.iface 217 (ptr p 0)∧vc=ptr p 0)→G w0 (ob ip p f::M) F:=by
 rw [em,gy];simp only [qm,ez,fI]
theorem wS {p:Nat}{f:fj}(b:Nat)(x:bi)(ve:Value)(vr vb:Value)(pv pq:Nat)(hx:x.inn=.fetch f)
  [dM [own b (x.cells (.iface 215 (ptr p 0)) (ptr p 0) ve (.pointer none) vr vb pv pq),ob km (vr,pv) x.run,sl bx vb x.blocks,ob cY pv x.v,ob fb pq (16,x.rd),ob jm p f] L M] (H:G w0 (ob eA b x::M) F):G w0 L F :=
 G.pickAll (As:=[own b (x.cells (.iface 215 (ptr p 0)) (ptr p 0) ve (.pointer none) vr vb pv pq),ob km (vr,pv) x.run,sl bx vb x.blocks,ob cY pv x.v,ob fb pq (16,x.rd),ob jm p f]) (by
  rw [cn] at H
  have h:=H (.iface 215 (ptr p 0)) (ptr p 0) ve (.pointer none) vr vb pv pq
  rw [hx] at h
  have h2:=G.sub (L:=ob gy (.iface 215 (ptr p 0),ptr p 0,ve,.pointer none) (.fetch f)::own b (x.cells (.iface 215 (ptr p 0)) (ptr p 0) ve (.pointer none) vr vb pv pq)::ob km (vr,pv) x.run::sl bx vb x.blocks::ob cY pv x.v::ob fb pq (16,x.rd)::M) h
  rw [jL] at h2
  simp only [List.cons_append,List.nil_append]
  exact(h2 p ⟨rfl,rfl,rfl⟩).sub)
theorem IA {p:Nat}{f:ux}(b:Nat)(x:bi)(vf:Value)(vr vb:Value)(pv pq:Nat)(hx:x.inn=.ext f)
  [dM [own b (x.cells (.iface 216 (ptr p 0)) vf (ptr p 0) (.pointer none) vr vb pv pq),ob km (vr,pv) x.run,sl bx vb x.blocks,ob cY pv x.v,ob fb pq (16,x.rd),ob yU p f] L M] (H:G w0 (ob eA b x::M) F):G w0 L F :=
 G.pickAll (As:=[own b (x.cells (.iface 216 (ptr p 0)) vf (ptr p 0) (.pointer none) vr vb pv pq),ob km (vr,pv) x.run,sl bx vb x.blocks,ob cY pv x.v,ob fb pq (16,x.rd),ob yU p f]) (by
  rw [cn] at H
  have h:=H (.iface 216 (ptr p 0)) vf (ptr p 0) (.pointer none) vr vb pv pq
  rw [hx] at h
  have h2:=G.sub (L:=ob gy (.iface 216 (ptr p 0),vf,ptr p 0,.pointer none) (.ext f)::own b (x.cells (.iface 216 (ptr p 0)) vf (ptr p 0) (.pointer none) vr vb pv pq)::ob km (vr,pv) x.run::sl bx vb x.blocks::ob cY pv x.v::ob fb pq (16,x.rd)::M) h
  rw [pp] at h2
  simp only [List.cons_append,List.nil_append]
  exact(h2 p ⟨rfl,rfl,rfl⟩).sub)
theorem HX {p:Nat}{f:dP}(b:Nat)(x:bi)(vf ve:Value)(vr vb:Value)(pv pq:Nat)(hx:x.inn=.com f)
  [dM [own b (x.cells (.iface 217 (ptr p 0)) vf ve (ptr p 0) vr vb pv pq),ob km (vr,pv) x.run,sl bx vb x.blocks,ob cY pv x.v,ob fb pq (16,x.rd),ob ip p f] L M] (H:G w0 (ob eA b x::M) F):G w0 L F :=
 G.pickAll (As:=[own b (x.cells (.iface 217 (ptr p 0)) vf ve (ptr p 0) vr vb pv pq),ob km (vr,pv) x.run,sl bx vb x.blocks,ob cY pv x.v,ob fb pq (16,x.rd),ob ip p f]) (by
  rw [cn] at H
  have h:=H (.iface 217 (ptr p 0)) vf ve (ptr p 0) vr vb pv pq
  rw [hx] at h
  have h2:=G.sub (L:=ob gy (.iface 217 (ptr p 0),vf,ve,ptr p 0) (.com f)::own b (x.cells (.iface 217 (ptr p 0)) vf ve (ptr p 0) vr vb pv pq)::ob km (vr,pv) x.run::sl bx vb x.blocks::ob cY pv x.v::ob fb pq (16,x.rd)::M) h
  rw [pE] at h2
  simp only [List.cons_append,List.nil_append]
  exact(h2 p ⟨rfl,rfl⟩).sub)
theorem Qa {n hi:Int}(h:0≤hi):(if (if hi<n then hi else n) > 0 then (if hi<n then hi else n) else 0)=held n 0 hi:=jG h
theorem pN {s:dr}(hK:G w0 L (K (.agg (dr.cells (dj s)).toArray))):G w0 L (CP Tryz.prog V3 [.agg (dr.cells s).toArray] K):=by
 refine Eu ?_
 unfold wc
 refine G.box fun q=>?_
 refine G.new fun q2=>?_
 refine G.drew ?_
 refine gr ?_
 refine Dt (s:=⟨s.words,s.stripes,s.wide,s.threads,s.start⟩) ?_
 refine gr ?_
 rw [Qa (n:=s.spins) (by omega),Qa (n:=s.writes) (by omega),Qa (n:=s.fuel) (by omega)]
 exact hK.sub
theorem tN {me:Int}{s:dr}(hK:∀b pv pq,G w0 (own b ((pZ me s).cells .nilIface (.pointer none) (.pointer none) (.pointer none) (.pointer none) (.slice none 0 0) pv pq)::ob cY pv (pZ me s).v::ob fb pq (16,(pZ me s).rd)::L) (K (ptr b 0))):G w0 L (CP Tryz.prog WG [i64 me,.agg (dr.cells s).toArray] K):=by
 have e1:held (dj s).words 32 256=(dj s).words:=fA (by omega)
 have e2:held (dj s).writes 0 96=(dj s).writes:=fA (by omega)
 refine C3 ?_
 unfold t4
 refine G.box fun q3=>?_
 refine gr ?_
 refine pN ?_
 repeat' (first | (with_reducible refine G.joini0 ?_) | (with_reducible refine G.joini1 ?_) | (with_reducible refine G.drew ?_) | (simp (maxSteps:=2000000) only [↓RG,RP,RB,BEq.rfl,Int.reduceEq,Int.reduceLT,Int.reduceLE,Nat.reduceEqDiff]))
 refine Ld fun pv=>?_
 rw [e1,e2]
 refine gg ?_
 refine JD fun pq=>?_
 rw [show held 16 1 16=16 from rfl]
 refine gg ?_
 refine G.box fun b=>?_
 refine gg ?_
 exact(hK b pv pq).sub
theorem FA {me:Int}{s:dr}{p:List dv}[r:Rd w0 L v gD 5 p](hv:bf v [v])(h:jb p)(hK:∀b,G w0 (ob eA b (iD me s p)::L) (K (ptr b 0))):G w0 L (CP Tryz.prog Yh [i64 me,.agg (dr.cells s).toArray,.agg #[v]] K):=by
 have e3:held (dj s).fuel 0 400=(dj s).fuel:=fA (by omega)
 refine FP ?_
 unfold ya
 refine G.box fun q1=>?_
 refine G.box fun q2=>?_
 refine gr ?_
 refine tN fun b pv pq=>?_
 repeat' (first | (with_reducible refine G.joini0 ?_) | (with_reducible refine G.joini1 ?_) | (with_reducible refine G.drew ?_) | (simp (maxSteps:=2000000) only [↓RG,RP,RB,BEq.rfl,Int.reduceEq,Int.reduceLT,Int.reduceLE,Nat.reduceEqDiff]))
 refine IC (vp:=pv) (p:=p) hv h fun pr=>?_
 repeat' (first | (with_reducible refine G.joini0 ?_) | (with_reducible refine G.joini1 ?_) | (with_reducible refine G.drew ?_) | (simp (maxSteps:=2000000) only [↓RG,RP,RB,BEq.rfl,Int.reduceEq,Int.reduceLT,Int.reduceLE,Nat.reduceEqDiff]))
 refine z9 pr pv (zJ p (dj s).fuel) ?_
 refine G.nilsl bx ?_
 have hK:=hK b
 rw [cn] at hK
 have hk:=hK .nilIface (.pointer none) (.pointer none) (.pointer none) (ptr pr 0) (.slice none 0 0) pv pq
 have h2:=G.sub (L:=ob gy (.nilIface,.pointer none,.pointer none,.pointer none) .none::own b ((iD me s p).cells .nilIface (.pointer none) (.pointer none) (.pointer none) (ptr pr 0) (.slice none 0 0) pv pq)::ob km (ptr pr 0,pv) (iD me s p).run::sl bx (.slice none 0 0) (iD me s p).blocks::ob cY pv (iD me s p).v::ob fb pq (16,(iD me s p).rd)::L) hk
 rw [vK] at h2
 have h3:=h2 rfl
 exact h3.sub
theorem C0 {me:Int}{s:dr}{bs:List Int}[r:Rd w0 L v bx 1 bs](h:bs.length≤1000000)(hK:∀b,G w0 (ob eA b (fR me s bs)::L) (K (ptr b 0))):G w0 L (CP Tryz.prog Yg [i64 me,.agg (dr.cells s).toArray,v] K):=by
 refine CN ?_
 unfold tY
 refine G.box fun q1=>?_
 refine gg ?_
 refine tN fun b pv pq=>?_
 refine gg ?_
 refine iJ (xs:=bs) h fun u hu=>?_
 refine gg ?_
 refine C7 pv ?_
 have hK:=hK b
 rw [cn] at hK
 have hk:=hK .nilIface (.pointer none) (.pointer none) (.pointer none) (.pointer none) u pv pq
 have h2:=G.sub (L:=ob gy (.nilIface,.pointer none,.pointer none,.pointer none) .none::own b ((fR me s bs).cells .nilIface (.pointer none) (.pointer none) (.pointer none) (.pointer none) u pv pq)::ob km (.pointer none,pv) none::sl bx u bs::ob cY pv (fR me s bs).v::ob fb pq (16,(fR me s bs).rd)::L) hk
 rw [vK] at h2
 have h3:=h2 rfl
 exact h3.sub
end
end Go.Proofs.YtoealglbimbbmaaGreatDoor.S
namespace Go.Proofs.YtoealglbimbbmaaGreatDoor.S
open Go Go.Proofs
set_option linter.unusedVariables false
set_option linter.unusedSimpArgs false
theorem OH (p:Nat)(w:World):(method (Tryz.prog.types.size+Made.depth) 215 (ptr p 0) "Next").run Tryz.prog w=.ok (Zn,ptr p 0) w:=by kernel_rfl
theorem NW (p:Nat)(w:World):(method (Tryz.prog.types.size+Made.depth) 215 (ptr p 0) "Tell").run Tryz.prog w=.ok (Zo,ptr p 0) w:=by kernel_rfl
theorem NR (p:Nat)(w:World):(method (Tryz.prog.types.size+Made.depth) 215 (ptr p 0) "End").run Tryz.prog w=.ok (VT,ptr p 0) w:=by kernel_rfl
theorem NY (p:Nat)(w:World):(method (Tryz.prog.types.size+Made.depth) 215 (ptr p 0) "By").run Tryz.prog w=.ok (Zm,ptr p 0) w:=by kernel_rfl
theorem NB (p:Nat)(w:World):(method (Tryz.prog.types.size+Made.depth) 216 (ptr p 0) "Next").run Tryz.prog w=.ok (Zr,ptr p 0) w:=by kernel_rfl
theorem Oj (p:Nat)(w:World):(method (Tryz.prog.types.size+Made.depth) 216 (ptr p 0) "Tell").run Tryz.prog w=.ok (Zs,ptr p 0) w:=by kernel_rfl
theorem Oo (p:Nat)(w:World):(method (Tryz.prog.types.size+Made.depth) 216 (ptr p 0) "End").run Tryz.prog w=.ok (WV,ptr p 0) w:=by kernel_rfl
theorem ND (p:Nat)(w:World):(method (Tryz.prog.types.size+Made.depth) 216 (ptr p 0) "By").run Tryz.prog w=.ok (Zq,ptr p 0) w:=by kernel_rfl
theorem Nj (p:Nat)(w:World):(method (Tryz.prog.types.size+Made.depth) 217 (ptr p 0) "Next").run Tryz.prog w=.ok (Zu,ptr p 0) w:=by kernel_rfl
theorem Oz (p:Nat)(w:World):(method (Tryz.prog.types.size+Made.depth) 217 (ptr p 0) "Tell").run Tryz.prog w=.ok (Zv,ptr p 0) w:=by kernel_rfl
theorem Ot (p:Nat)(w:World):(method (Tryz.prog.types.size+Made.depth) 217 (ptr p 0) "End").run Tryz.prog w=.ok (VO,ptr p 0) w:=by kernel_rfl
theorem NL (p:Nat)(w:World):(method (Tryz.prog.types.size+Made.depth) 217 (ptr p 0) "By").run Tryz.prog w=.ok (Zt,ptr p 0) w:=by kernel_rfl
section
variable {w0:bo}{L M:List bd}{K:KV}{F:World→Prop}{C:bd→List bd}{b pv pq:Nat}{x:bi}{v iv vf ve vc vr vb:Value}{i:rG}
theorem G.inv {t:TypeId}{name:String}{v:Value}{f:FuncId}{args:List Value}(hm:∀w,(method (Tryz.prog.types.size+Made.depth) t v name).run Tryz.prog w=.ok (f,v) w)(h:G w0 L (CP Tryz.prog f (v::args) K)):G w0 L (E4 Tryz.prog (.iface t v) name args K) :=
 fun w H=>⟨f,v,hm w,h w H⟩
theorem Sf (ho:i.ok)(hK:G w0 (ob gy (iv,vf,ve,vc) i::M) (K (i64 i.fin))):G w0 (ob gy (iv,vf,ve,vc) i::M) (E4 Tryz.prog iv "End" [] K):=by
 cases i with
 | none=>exact ho.elim
 | fetch f=>rw [jL] at *;intro p h;have hK:=hK p h;rw [h.1];exact G.inv (NR p) (jh (f:=f) hK)
 | ext f=>rw [pp] at *;intro p h;have hK:=hK p h;rw [h.1];exact G.inv (Oo p) (o0 (x:=f) hK)
 | com f=>rw [pE] at *;intro p h;have hK:=hK p h;rw [h.1];exact G.inv (Ot p) (ki (x:=f) hK)
theorem TC (ho:i.ok)(hK:G w0 (ob gy (iv,vf,ve,vc) i::M) (K (i64 i.by_))):G w0 (ob gy (iv,vf,ve,vc) i::M) (E4 Tryz.prog iv "By" [] K):=by
 cases i with
 | none=>exact ho.elim
 | fetch f=>rw [jL] at *;intro p h;have hK:=hK p h;rw [h.1];exact G.inv (NY p) (BF (f:=f) hK)
 | ext f=>rw [pp] at *;intro p h;have hK:=hK p h;rw [h.1];exact G.inv (ND p) (yZ (x:=f) hK)
 | com f=>rw [pE] at *;intro p h;have hK:=hK p h;rw [h.1];exact G.inv (NL p) (yG (x:=f) hK)
theorem QD (ho:i.ok)(hK:G w0 (ob gy (iv,vf,ve,vc) i::M) (K (.tuple #[.agg (pD.cells i.next.1).toArray,.bool i.next.2]))):G w0 (ob gy (iv,vf,ve,vc) i::M) (E4 Tryz.prog iv "Next" [] K):=by
 cases i with
 | none=>exact ho.elim
 | fetch f=>rw [jL] at *;intro p h;have hK:=hK p h;rw [h.1];exact G.inv (OH p) (yB (f:=f) hK)
 | ext f=>rw [pp] at *;intro p h;have hK:=hK p h;rw [h.1];exact G.inv (NB p) (wi ho.1 hK)
 | com f=>rw [pE] at *;intro p h;have hK:=hK p h;rw [h.1];exact G.inv (Nj p) (vN ho hK)
theorem PQ {a:eW}(ho:i.ok)(hK:G w0 (ob gy (iv,vf,ve,vc) (i.tell a)::M) (K (.tuple #[]))):G w0 (ob gy (iv,vf,ve,vc) i::M) (E4 Tryz.prog iv "Tell" [.agg (eW.cells a).toArray] K):=by
 cases i with
 | none=>exact ho.elim
 | fetch f=>rw [jL] at *;intro p h;have hK:=hK p h;rw [h.1];exact G.inv (NW p) (yy (f:=f) hK)
 | ext f=>rw [pp] at *;intro p h;have hK:=hK p h;rw [h.1];exact G.inv (Oj p) (wC ho.1 ho.2 hK)
 | com f=>rw [pE] at *;intro p h;have hK:=hK p h;rw [h.1];exact G.inv (Oz p) (vO ho hK)
theorem gU [i:au L eA b x C](hK:G w0 L (K (i64 (if x.state=8 then x.fin else 0)))):G w0 L (CP Tryz.prog gt [ptr b 0] K):=by
 refine i.ro (fun M hK=>?_) hK
 refine uv ?_
 unfold mN
 rw [cn] at *
 intro iv vf ve vc vr vb pv pq
 have hK:=hK iv vf ve vc vr vb pv pq
 by_cases h:x.state=8
 ·rw [if_pos h] at hK
  refine eC (eq_true h) ?_
  exact hK
 ·rw [if_neg h] at hK
  refine eC h ?_
  exact hK
theorem xI [i:au L eA b x C](hK:G w0 L (K (i64 (if x.state=8 then x.err else 0)))):G w0 L (CP Tryz.prog WA [ptr b 0] K):=by
 refine i.ro (fun M hK=>?_) hK
 refine uk ?_
 unfold ml
 rw [cn] at *
 intro iv vf ve vc vr vb pv pq
 have hK:=hK iv vf ve vc vr vb pv pq
 by_cases h:x.state=8
 ·rw [if_pos h] at hK
  refine eC (eq_true h) ?_
  exact hK
 ·rw [if_neg h] at hK
  refine eC h ?_
  exact hK
theorem pz [i:au L eA b x C](hK:G w0 L (K (i64 (if x.state=8 then x.by_ else -1)))):G w0 L (CP Tryz.prog V5 [ptr b 0] K):=by
 refine i.ro (fun M hK=>?_) hK
 refine vk ?_
 unfold nK
 rw [cn] at *
 intro iv vf ve vc vr vb pv pq
 have hK:=hK iv vf ve vc vr vb pv pq
 by_cases h:x.state=8
 ·rw [if_pos h] at hK
  refine eC (eq_true h) ?_
  exact hK
 ·rw [if_neg h] at hK
  refine eC h ?_
  exact hK
theorem kB [i:au L eA b x C](hK:G w0 L (K (.tuple #[u64 x.beg,.bool x.begun]))):G w0 L (CP Tryz.prog VL [ptr b 0] K):=by
 refine i.ro (fun M hK=>?_) hK
 refine sD ?_
 unfold kZ
 rw [cn] at *
 intro iv vf ve vc vr vb pv pq
 have hK:=hK iv vf ve vc vr vb pv pq
 refine G.drew ?_
 refine gr ?_
 exact hK
theorem oM [i:au L eA b x C](hK:G w0 L (K (u64 x.stamp))):G w0 L (CP Tryz.prog V6 [ptr b 0] K):=by
 refine i.ro (fun M hK=>?_) hK
 refine se ?_
 unfold kS
 rw [cn] at *
 intro iv vf ve vc vr vb pv pq
 have hK:=hK iv vf ve vc vr vb pv pq
 refine gr ?_
 exact hK
theorem yI [i:au L eA b x C](hK:G w0 L (K (.bool (!decide (x.state=8) && x.blocking)))):G w0 L (CP Tryz.prog X4 [ptr b 0] K):=by
 refine i.ro (fun M hK=>?_) hK
 refine p7 ?_
 unfold jz
 rw [cn] at *
 intro iv vf ve vc vr vb pv pq
 have hK:=hK iv vf ve vc vr vb pv pq
 refine gu ?_
 by_cases h:x.state=8
 ·rw [decide_eq_true h] at hK
  refine eC (eq_true h) ?_
  exact hK
 ·rw [decide_eq_false h] at hK
  refine eC h ?_
  exact hK
theorem Dp (hl:x.rd.length≤1000000)[i:au L eA b x C](hK:∀u,bf u [u]→G w0 (sl fX u x.rd::L) (K u)):G w0 L (CP Tryz.prog X3 [ptr b 0] K):=by
 refine i.roN (fun M hK=>?_) hK
 refine tx ?_
 unfold ly
 rw [cn]
 intro iv vf ve vc vr vb pv pq
 refine gr ?_
 refine ma (xs:=x.rd) hl fun u hu=>?_
 refine gr ?_
 refine dL b x iv vf ve vc vr vb pv pq ?_
 exact(hK u hu).sub
theorem CX (hl:x.v.k.length≤1000000)[i:au L eA b x C](hK:∀u,bf u [u]→G w0 (sl bk u x.v.k::L) (K u)):G w0 L (CP Tryz.prog Yl [ptr b 0] K):=by
 refine i.roN (fun M hK=>?_) hK
 refine rR ?_
 unfold kM
 rw [cn]
 intro iv vf ve vc vr vb pv pq
 refine gr ?_
 refine HF (s:=x.v) hl fun u hu=>?_
 refine gr ?_
 refine dL b x iv vf ve vc vr vb pv pq ?_
 exact(hK u hu).sub
theorem lO [i:au L eA b x C](hK:G w0 L (K (.bool x.wr))):G w0 L (CP Tryz.prog VN [ptr b 0] K):=by
 refine i.ro (fun M hK=>?_) hK
 refine qO ?_
 unfold jP
 rw [cn] at *
 intro iv vf ve vc vr vb pv pq
 have hK:=hK iv vf ve vc vr vb pv pq
 refine gu ?_
 by_cases h:x.state=8
 ·have hw:x.wr=false:=by unfold bi.wr;simp [h]
  rw [hw] at hK
  refine eC (eq_true h) ?_
  exact hK
 ·have hw:x.wr=x.inn.wr:=by unfold bi.wr;simp [h]
  rw [hw] at hK
  cases hi:x.inn with
  | none =>
   rw [hi] at hK
   have hK:G w0 (ob gy (iv,vf,ve,vc) .none::own b (x.cells iv vf ve vc vr vb pv pq)::ob km (vr,pv) x.run::sl bx vb x.blocks::ob cY pv x.v::ob fb pq (16,x.rd)::M) (K (.bool false)):=hK.sub
   rw [vK] at hK
   refine G.take1 gy (iv,vf,ve,vc) ?_
   rw [vK]
   intro e
   have hK:=hK e
   subst e
   refine eC h ?_
   exact hK
  | fetch f =>
   rw [hi] at hK
   have hK:G w0 (ob gy (iv,vf,ve,vc) (.fetch f)::own b (x.cells iv vf ve vc vr vb pv pq)::ob km (vr,pv) x.run::sl bx vb x.blocks::ob cY pv x.v::ob fb pq (16,x.rd)::M) (K (.bool false)):=hK.sub
   rw [jL] at hK
   refine G.take1 gy (iv,vf,ve,vc) ?_
   rw [jL]
   intro p e
   have hK:=hK p e
   obtain⟨e1,e2,e3⟩:=e
   subst e3
   refine eC h ?_
   exact hK
  | ext f =>
   rw [hi] at hK
   have hK:G w0 (ob gy (iv,vf,ve,vc) (.ext f)::own b (x.cells iv vf ve vc vr vb pv pq)::ob km (vr,pv) x.run::sl bx vb x.blocks::ob cY pv x.v::ob fb pq (16,x.rd)::M) (K (.bool false)):=hK.sub
   rw [pp] at hK
   refine G.take1 gy (iv,vf,ve,vc) ?_
   rw [pp]
   intro p e
   have hK:=hK p e
   obtain⟨e1,e2,e3⟩:=e
   subst e3
   refine eC h ?_
   exact hK
  | com f =>
   rw [hi] at hK
   have hK:G w0 (ob gy (iv,vf,ve,vc) (.com f)::own b (x.cells iv vf ve vc vr vb pv pq)::ob km (vr,pv) x.run::sl bx vb x.blocks::ob cY pv x.v::ob fb pq (16,x.rd)::M) (K (.bool ((f.writing && decide (f.pat.fin=0)) || decide (f.pat.fin=2)))):=hK.sub
   rw [pE] at hK
   refine G.take1 gy (iv,vf,ve,vc) ?_
   rw [pE]
   intro p e
   have hK:=hK p e
   obtain⟨e1,e3⟩:=e
   subst e3
   refine eC h ?_
   refine sf (x:=f) ?_
   refine gr ?_
   refine G.any (decide (f.pat.fin=2)) (fun _ K hK=>?_) ?_
   ·refine gr ?_
    refine ki (x:=f) ?_
    refine gr ?_
    exact hK
   ·exact hK
theorem j6 [i:au L eA b x C](hK:G w0 L (K (.bool x.done))):G w0 L (CP Tryz.prog Wa [ptr b 0] K):=by
 refine i.ro (fun M hK=>?_) hK
 refine pu ?_
 unfold jg
 refine gU (x:=x) ?_
 refine gu ?_
 refine gr ?_
 refine G.any x.wr (fun _ K hK=>?_) ?_
 ·refine gr ?_
  refine lO (x:=x) ?_
  exact hK
 ·exact hK
theorem CO [i:au L eA b x C](hK:∀u:kx,G w0 (sl bk u.v (if x.done then x.v.l.cells else [])::L) (K u.v)):G w0 L (CP Tryz.prog Ym [ptr b 0] K):=by
 refine i.roN (P:=fun _=>True) (N:=fun u:kx=>sl bk u.v (if x.done then x.v.l.cells else [])) (F':=fun u=>K u.v) (fun M hK=>?_) (fun u _=>hK u)
 have hK:=fun u=>hK u trivial
 refine rW ?_
 unfold lh
 refine j6 (x:=x) ?_
 cases hd:x.done
 ·simp only [hd,Bool.false_eq_true,if_false] at hK
  refine gr ?_
  refine G.nilsl bk ?_
  exact hK ⟨none,0,0⟩
 ·simp only [hd,if_true] at hK
  refine gr ?_
  rw [cn]
  intro iv vf ve vc vr vb pv pq
  refine gr ?_
  refine AB (s:=x.v) fun u hu=>?_
  refine dL b x iv vf ve vc vr vb pv pq ?_
  refine G.isSl (v:=u) fun s hs=>?_
  subst hs
  exact(hK s).sub
theorem tW (hf:x.done=true→x.v.l.frees.length≤1000000)(hb:x.blocks.length≤1000000)[i:au L eA b x C](hK:∀u:kx,G w0 (sl bx u.v x.freed::L) (K u.v)):G w0 L (CP Tryz.prog WC [ptr b 0] K):=by
 refine i.roN (P:=fun _=>True) (N:=fun u:kx=>sl bx u.v x.freed) (F':=fun u=>K u.v) (fun M hK=>?_) (fun u _=>hK u)
 have hK:=fun u=>hK u trivial
 refine sk ?_
 unfold kX
 refine j6 (x:=x) ?_
 cases hd:x.done
 ·simp only [bi.freed,hd,Bool.false_eq_true,if_false] at hK
  refine gr ?_
  refine G.nilsl bx ?_
  exact hK ⟨none,0,0⟩
 ·refine gr ?_
  rw [cn]
  intro iv vf ve vc vr vb pv pq
  cases hr:x.run with
  | none =>
   simp only [bi.freed,hd,if_true,hr] at hK
   refine G.take1 km (vr,pv) ?_
   rw [A5]
   intro e
   subst e
   refine gr ?_
   refine iJ (xs:=x.blocks) hb fun u hu=>?_
   refine C7 pv ?_
   rw [←hr]
   refine dL b x iv vf ve vc (.pointer none) vb pv pq ?_
   refine G.isSl (v:=u) fun s hs=>?_
   subst hs
   exact(hK s).sub
  | some r =>
   simp only [bi.freed,hd,if_true,hr] at hK
   refine G.take1 km (vr,pv) ?_
   rw [zD]
   intro p e
   subst e
   refine gr ?_
   refine HW (s:=x.v) (hf hd) fun u hu=>?_
   refine z9 p pv r ?_
   rw [←hr]
   refine dL b x iv vf ve vc (ptr p 0) vb pv pq ?_
   refine G.isSl (v:=u) fun s hs=>?_
   subst hs
   exact(hK s).sub
theorem tL (ht:uz w0)(hs:x.done=true→AC x.items)[i:au L eA b x C](hK:∀s,tt x s→G w0 L (K (.string s))):G w0 L (CP Tryz.prog WB [ptr b 0] K):=by
 refine i.roN (P:=tt x) (N:=fun _=>LR) (F':=fun s=>K (.string s)) (fun M hK=>?_) (fun s hs=>by rw [J5];exact hK s hs)
 simp only [J5] at hK
 refine sn ?_
 unfold kV
 refine j6 (x:=x) ?_
 refine gu ?_
 cases hd:x.done
 ·refine gr ?_
  exact hK ⟨#[]⟩ (fun g=>by rw [hd] at g;cases g)
 ·refine gr ?_
  rw [cn]
  intro iv vf ve vc vr vb pv pq
  have hs:=hs hd
  cases hr:x.run with
  | none =>
   refine G.take1 km (vr,pv) ?_
   rw [A5]
   intro e
   subst e
   refine gr ?_
   refine C7 pv ?_
   rw [←hr]
   refine dL b x iv vf ve vc (.pointer none) vb pv pq ?_
   exact(hK ⟨#[]⟩ (fun _ r g=>by rw [hr] at g;cases g)).sub
  | some r =>
   have hs:AC r.items:=by unfold bi.items at hs;rw [hr] at hs;exact hs
   refine G.take1 km (vr,pv) ?_
   rw [zD]
   intro p e
   subst e
   refine gr ?_
   refine Ez (vp:=pv) (x:=r) (by have:=hs.1;omega) fun c=>?_
   refine gr ?_
   refine Ht ht (xs:=r.items) hs fun s hsl=>?_
   refine z9 p pv r ?_
   rw [←hr]
   refine dL b x iv vf ve vc (ptr p 0) vb pv pq ?_
   exact(hK s (fun _ q g=>by rw [hr] at g;cases g;exact hsl)).sub
end
end Go.Proofs.YtoealglbimbbmaaGreatDoor.S
namespace Go.Proofs.YtoealglbimbbmaaGreatDoor.S
open Go Go.Proofs
set_option linter.unusedVariables false
set_option linter.unusedSimpArgs false
section
variable {w0:bo}{L M:List bd}{K:KV}{F:World→Prop}{C:bd→List bd}{b p pv pq:Nat}{x:bi}{v iv vf ve vc vr vb:Value}{i:rG}{c:Int}
theorem G.innDrop (h:i.isCom=false)(H:vc=.pointer none→G w0 M F):G w0 (ob gy (iv,vf,ve,vc) i::M) F:=by
 cases i with
 | none=>rw [vK];exact H
 | fetch f=>rw [jL];intro p e;exact(H e.2.2).sub
 | ext f=>rw [pp];intro p e;exact(H e.2.2).sub
 | com f=>cases h
theorem i8 {e er by_:Int}[i:au L eA b x C](hK:G w0 (C (ob eA b (fi x e er by_))) (K (.tuple #[]))):G w0 L (CP Tryz.prog go [ptr b 0,i64 e,i64 er,i64 by_] K):=by
 refine i.use (fun M hK=>?_) hK
 refine uu ?_
 unfold mx
 rw [cn] at *
 intro iv vf ve vc vr vb pv pq
 have hK:=hK iv vf ve vc vr vb pv pq
 refine gr ?_
 exact hK
theorem xV (hc:x.inn.isCom=false)[i:au L eA b x C](hK:G w0 (C (ob eA b (qt x c))) (K (.tuple #[]))):G w0 L (CP Tryz.prog WH [ptr b 0,i64 c] K):=by
 refine i.use (fun M hK=>?_) hK
 refine uy ?_
 unfold mw
 rw [cn]
 intro iv vf ve vc vr vb pv pq
 refine G.take1 gy (iv,vf,ve,vc) ?_
 refine G.innDrop hc fun e=>?_
 subst e
 refine G.drew ?_
 refine gr ?_
 refine BW ?_
 refine gr ?_
 refine I5 fun p=>?_
 refine gr ?_
 refine ie ?_
 unfold fL
 refine gr ?_
 refine wS (p:=p) b (qt x c) ve vr vb pv pq rfl ?_
 exact hK
theorem tS {st:Int}(hc:x.inn.isCom=false)(hl:x.rd.length≤1000000)[i:au L eA b x C](hK:G w0 (C (ob eA b (rS x st))) (K (.tuple #[]))):G w0 L (CP Tryz.prog WI [ptr b 0,i64 st] K):=by
 refine i.use (fun M hK=>?_) hK
 refine rN ?_
 unfold kY
 rw [cn]
 intro iv vf ve vc vr vb pv pq
 refine G.take1 gy (iv,vf,ve,vc) ?_
 refine G.innDrop hc fun e=>?_
 subst e
 refine G.drew ?_
 refine gr ?_
 refine ma (xs:=x.rd) hl fun u hu=>?_
 refine gr ?_
 refine It (xs:=x.rd) hl fun p=>?_
 refine gr ?_
 refine ie ?_
 unfold fL
 refine gr ?_
 refine IA (p:=p) b (rS x st) vf vr vb pv pq rfl ?_
 exact hK.sub
theorem Io (o1:∀r,x.run=some r→m7 r x.v)(oB:x.blocks.length≤1000000∧x.given≤x.blocks.length)[i:au L eA b x C](hK:∀ρ,cx ρ→G w0 (C (ob eA b (fy ρ x).1)) (K (.tuple #[i64 (fy ρ x).2.1,i64 (fy ρ x).2.2]))) :
  G w0 L (CP Tryz.prog Yp [ptr b 0] K):=by
 refine i.useA (A':=fun z:{ ρ // cx ρ }=>ob eA b (fy z.1 x).1) (F':=fun z=>K (.tuple #[i64 (fy z.1 x).2.1,i64 (fy z.1 x).2.2])) (fun M hK=>?_) (fun z=>hK z.1 z.2)
 have hK:∀ρ,cx ρ→G w0 (ob eA b (fy ρ x).1::M) (K (.tuple #[i64 (fy ρ x).2.1,i64 (fy ρ x).2.2])):=fun ρ h=>hK ⟨ρ,h⟩
 refine uL ?_
 unfold nI
 rw [cn]
 intro iv vf ve vc vr vb pv pq
 cases hr:x.run with
 | some r =>
  refine G.take1 km (vr,pv) ?_
  rw [zD]
  intro pr e
  subst e
  repeat' (first | (with_reducible refine G.joini0 ?_) | (with_reducible refine G.joini1 ?_) | (with_reducible refine G.drew ?_) | (simp (maxSteps:=2000000) only [↓RG,RP,RB,BEq.rfl,Int.reduceEq,Int.reduceLT,Int.reduceLE,Nat.reduceEqDiff]))
  refine G.pickAll (As:=[ob g9 (pr,pv) r,ob cY pv x.v]) ?_
  simp only [List.cons_append,List.nil_append]
  refine Iz (o1 r hr) fun R hR=>?_
  obtain⟨ρ,hρ,eR⟩:=S7 (o1 r hr) hR
  have hK:=hK ρ hρ
  have e:fy ρ x=({ x with run:=some R.1,v:=R.2.1 },R.2.2,R.1.err):=by unfold fy;rw [hr];simp only;rw [eR]
  rw [e] at hK
  obtain⟨y,t,q⟩:=R
  simp only at hK ⊢
  refine gg ?_
  refine Iw (vp:=pv) (x:=y) ?_
  refine z9 pr pv y ?_
  refine dL b { x with run:=some y,v:=t } iv vf ve vc (ptr pr 0) vb pv pq ?_
  refine gg ?_
  exact hK
 | none =>
  obtain⟨ρ,hρ⟩:=rt
  have hK:=hK ρ hρ
  have e:fy ρ x=({ x with given:=(eU (x.blocks.drop x.given) x.given x.v).1,v:=(eU (x.blocks.drop x.given) x.given x.v).2.1 },(eU (x.blocks.drop x.given) x.given x.v).2.2.1,(eU (x.blocks.drop x.given) x.given x.v).2.2.2):=by unfold fy;rw [hr]
  rw [e] at hK
  refine G.take1 km (vr,pv) ?_
  rw [A5]
  intro e
  subst e
  refine gg ?_
  generalize hR:eU (x.blocks.drop x.given) x.given x.v=R at hK
  refine G.loop0 (σ:=Nat×fa) (fun z=>own b (bi.cells { x with given:=z.1,v:=z.2 } iv vf ve vc (.pointer none) vb pv pq)::sl bx vb x.blocks::ob cY pv z.2::ob fb pq (16,x.rd)::ob gy (iv,vf,ve,vc) x.inn::M) (fun z=>z.1≤x.blocks.length∧eU (x.blocks.drop z.1) z.1 z.2=R) (fun z=>x.blocks.length-z.1) (x.given,x.v) rfl ⟨oB.2,hR⟩ ?_
  rintro⟨k,s⟩ ⟨hk,he⟩ J hJ
  simp only at hk he hJ ⊢
  have hend:∀{s':fa} {q e:Int},R=(k,s',q,e)→G w0 (own b (bi.cells { x with given:=k,v:=s' } iv vf ve vc (.pointer none) vb pv pq)::sl bx vb x.blocks::ob cY pv s'::ob fb pq (16,x.rd)::ob gy (iv,vf,ve,vc) x.inn::M) (K (.tuple #[i64 q,i64 e])):=fun {s' q e} h=>by
   rw [h] at hK
   refine C7 pv ?_
   rw [←hr]
   refine dL b { x with given:=k,v:=s' } iv vf ve vc (.pointer none) vb pv pq ?_
   exact hK
  by_cases c:k<x.blocks.length
  ·have e:=cw c
   rw [List.drop_eq_getElem_cons c,eU] at he
   have cl:((k:Int)<x.blocks.length):=by omega
   repeat' (first | (with_reducible refine G.joini0 ?_) | (with_reducible refine G.joini1 ?_) | (with_reducible refine G.drew ?_) | (simp (maxSteps:=2000000) only [↓RG,RP,RB,BEq.rfl,Int.reduceEq,Int.reduceLT,Int.reduceLE,Nat.reduceEqDiff,cl]))
   refine IQ (s:=s) ?_
   generalize gY s x.blocks[k]=q at he
   obtain⟨s',q⟩:=q
   simp only at he ⊢
   by_cases c0:q=0
   ·rw [if_pos c0] at he
    refine gf (eq_true c0) ?_
    rw [dx (by omega)]
    exact(hJ (k+1,s') ⟨c,he⟩ (by simp only;omega)).sub
   ·rw [if_neg c0] at he
    by_cases c11:q=11
    ·rw [if_pos c11] at he
     refine gf (an c0 (eq_true c11)) ?_
     exact(hend he.symm).sub
    ·rw [if_neg c11] at he
     refine gf (an c0 c11) ?_
     exact(hend he.symm).sub
  ·have cl:¬((k:Int)<x.blocks.length):=by omega
   rw [List.drop_eq_nil_of_le (by omega),eU] at he
   repeat' (first | (with_reducible refine G.joini0 ?_) | (with_reducible refine G.joini1 ?_) | (with_reducible refine G.drew ?_) | (simp (maxSteps:=2000000) only [↓RG,RP,RB,BEq.rfl,Int.reduceEq,Int.reduceLT,Int.reduceLE,Nat.reduceEqDiff,cl]))
   exact(hend he.symm).sub
theorem vE (ho:Fd x)[i:au L eA b x C](hK:∀ρ,cx ρ→G w0 (C (ob eA b (fh ρ x))) (K (.tuple #[]))) :
  G w0 L (CP Tryz.prog Wz [ptr b 0] K):=by
 refine i.useA (A':=fun z:{ ρ // cx ρ }=>ob eA b (fh z.1 x)) (F':=fun _=>K (.tuple #[])) (fun M hK=>?_) (fun z=>hK z.1 z.2)
 have hK:∀ρ,cx ρ→G w0 (ob eA b (fh ρ x)::M) (K (.tuple #[])):=fun ρ h=>hK ⟨ρ,h⟩
 refine sL ?_
 unfold lV
 obtain⟨o1,oB,o2,o3⟩:=ho
 refine Io (x:=x) o1 oB fun ρ hρ=>?_
 have hK:=hK ρ hρ
 unfold fh at hK
 have o2:(fy ρ x).1.inn.isCom=false:=by unfold fy;split <;> exact o2
 have o3:(fy ρ x).1.rd.length≤1000:=by unfold fy;split <;> exact o3
 generalize fy ρ x=R at hK o2 o3
 obtain⟨y,q,e⟩:=R
 unfold jr at hK
 simp only at hK o2 o3 ⊢
 rw [cn]
 intro iv vf ve vc vr vb pv pq
 refine G.okV (b:=pv) (s:=y.v) fun _ hl=>?_
 have o4:=Qt hl
 by_cases c1:q=1
 ·rw [if_pos c1] at hK
  repeat' (first | (with_reducible refine G.joini0 ?_) | (with_reducible refine G.joini1 ?_) | (with_reducible refine G.drew ?_) | (simp (maxSteps:=2000000) only [↓RG,RP,RB,BEq.rfl,Int.reduceEq,Int.reduceLT,Int.reduceLE,Nat.reduceEqDiff,eq_true c1]))
  refine uT (s:=y.v) ?_
  refine dL b y iv vf ve vc vr vb pv pq ?_
  refine xV (x:=y) o2 ?_
  repeat' (first | (with_reducible refine G.joini0 ?_) | (with_reducible refine G.joini1 ?_) | (with_reducible refine G.drew ?_) | (simp (maxSteps:=2000000) only [↓RG,RP,RB,BEq.rfl,Int.reduceEq,Int.reduceLT,Int.reduceLE,Nat.reduceEqDiff]))
  exact hK
 rw [if_neg c1] at hK
 by_cases c3:q=3
 ·rw [if_pos c3] at hK
  repeat' (first | (with_reducible refine G.joini0 ?_) | (with_reducible refine G.joini1 ?_) | (with_reducible refine G.drew ?_) | (simp (maxSteps:=2000000) only [↓RG,RP,RB,BEq.rfl,Int.reduceEq,Int.reduceLT,Int.reduceLE,Nat.reduceEqDiff,c1,eq_true c3]))
  refine dL b { y with blocking:=true } iv vf ve vc vr vb pv pq ?_
  refine tS (x:={ y with blocking:=true }) o2 (by simp only;omega) ?_
  repeat' (first | (with_reducible refine G.joini0 ?_) | (with_reducible refine G.joini1 ?_) | (with_reducible refine G.drew ?_) | (simp (maxSteps:=2000000) only [↓RG,RP,RB,BEq.rfl,Int.reduceEq,Int.reduceLT,Int.reduceLE,Nat.reduceEqDiff]))
  exact hK
 rw [if_neg c3] at hK
 by_cases c4:q=4
 ·rw [if_pos c4] at hK
  refine gf (an c1 (an c3 (eq_true c4))) ?_
  refine dL b y iv vf ve vc vr vb pv pq ?_
  refine i8 (x:=y) ?_
  repeat' (first | (with_reducible refine G.joini0 ?_) | (with_reducible refine G.joini1 ?_) | (with_reducible refine G.drew ?_) | (simp (maxSteps:=2000000) only [↓RG,RP,RB,BEq.rfl,Int.reduceEq,Int.reduceLT,Int.reduceLE,Nat.reduceEqDiff]))
  exact hK
 rw [if_neg c4] at hK
 repeat' (first | (with_reducible refine G.joini0 ?_) | (with_reducible refine G.joini1 ?_) | (with_reducible refine G.drew ?_) | (simp (maxSteps:=2000000) only [↓RG,RP,RB,BEq.rfl,Int.reduceEq,Int.reduceLT,Int.reduceLE,Nat.reduceEqDiff,c1,c3,c4]))
 refine AB (s:=y.v) fun u hu=>?_
 by_cases cz:y.v.l.cells=[]
 ·rw [if_pos cz] at hK
  rw [cz]
  repeat' (first | (with_reducible refine G.joini0 ?_) | (with_reducible refine G.joini1 ?_) | (with_reducible refine G.drew ?_) | (simp (maxSteps:=2000000) only [↓RG,RP,RB,BEq.rfl,Int.reduceEq,Int.reduceLT,Int.reduceLE,Nat.reduceEqDiff,List.length_nil,Int.cast_ofNat_Int]))
  refine dL b y iv vf ve vc vr vb pv pq ?_
  refine i8 (x:=y) ?_
  repeat' (first | (with_reducible refine G.joini0 ?_) | (with_reducible refine G.joini1 ?_) | (with_reducible refine G.drew ?_) | (simp (maxSteps:=2000000) only [↓RG,RP,RB,BEq.rfl,Int.reduceEq,Int.reduceLT,Int.reduceLE,Nat.reduceEqDiff]))
  exact hK.sub
 ·rw [if_neg cz] at hK
  have cl:¬((y.v.l.cells.length:Nat):Int)=0:=by
   intro g
   exact cz (List.length_eq_zero_iff.1 (by omega))
  refine G.take1 gy (iv,vf,ve,vc) ?_
  refine G.innDrop o2 fun e=>?_
  subst e
  repeat' (first | (with_reducible refine G.joini0 ?_) | (with_reducible refine G.joini1 ?_) | (with_reducible refine G.drew ?_) | (simp (maxSteps:=2000000) only [↓RG,RP,RB,BEq.rfl,Int.reduceEq,Int.reduceLT,Int.reduceLE,Nat.reduceEqDiff,cl]))
  refine ma (xs:=y.rd) (by omega) fun u2 hu2=>?_
  refine gg ?_
  refine H0 (seen:=y.rd) (cells:=y.v.l.cells) (by omega) (by omega) fun p=>?_
  refine gg ?_
  refine ie ?_
  unfold fL
  refine gg ?_
  refine HX (p:=p) b { y with inn:=.com (nq y.me y.s.spins y.stamp y.rd y.v.l.cells (fB (dp y.v.l.cells y.s.stripes y.s.wide) 16)),state:=6 } vf ve vr vb pv pq rfl ?_
  exact hK.sub
theorem AE {f:fj}(hx:x.inn=.fetch f)(ho:Jm x f)[i:au L eA b x C]
  (hK:∀ρ,cx ρ→G w0 (C (ob eA b (cy ρ x f))) (K (.tuple #[]))):G w0 L (CP Tryz.prog YH [ptr b 0] K):=by
 refine i.useA (A':=fun z:{ ρ // cx ρ }=>ob eA b (cy z.1 x f)) (F':=fun _=>K (.tuple #[])) (fun M hK=>?_) (fun z=>hK z.1 z.2)
 have hK:∀ρ,cx ρ→G w0 (ob eA b (cy ρ x f)::M) (K (.tuple #[])):=fun ρ h=>hK ⟨ρ,h⟩
 refine qG ?_
 unfold jQ
 obtain⟨o1,o2,o3,o4⟩:=ho
 rw [cn]
 intro iv vf ve vc vr vb pv pq
 refine G.take1 gy (iv,vf,ve,vc) ?_
 rw [hx,jL]
 rintro p ⟨e1,e2,e3⟩
 subst e1 e2 e3
 refine gr ?_
 refine jh (f:=f) ?_
 obtain⟨ρ0,hρ0⟩:=rt
 rcases o1 with h6 | hf2
 ·have hK:=hK ρ0 hρ0
  unfold cy at hK
  rw [if_pos h6] at hK
  refine eC h6 ?_
  refine wS (p:=p) b x ve vr vb pv pq hx ?_
  refine tS (x:=x) (by rw [hx]) (by omega) ?_
  refine gr ?_
  exact hK
 ·have n6:¬f.pat.fin=6:=by omega
  have o4:=o4 hf2
  repeat' (first | (with_reducible refine G.joini0 ?_) | (with_reducible refine G.joini1 ?_) | (with_reducible refine G.drew ?_) | (simp (maxSteps:=2000000) only [↓RG,RP,RB,BEq.rfl,Int.reduceEq,Int.reduceLT,Int.reduceLE,Nat.reduceEqDiff,hf2]))
  refine zi (f:=f) ?_
  rw [if_pos hf2]
  refine gg ?_
  refine AK (m:=16) (xs:=x.rd) (x:=⟨f.stripe,f.lock.version⟩) o2 ?_
  by_cases c0:l7 16 x.rd ⟨f.stripe,f.lock.version⟩=0
  ·rw [c0]
   repeat' (first | (with_reducible refine G.joini0 ?_) | (with_reducible refine G.joini1 ?_) | (with_reducible refine G.drew ?_) | (simp (maxSteps:=2000000) only [↓RG,RP,RB,BEq.rfl,Int.reduceEq,Int.reduceLT,Int.reduceLE,Nat.reduceEqDiff]))
   refine uT (s:=x.v) ?_
   refine gg ?_
   refine zg (f:=f) ?_
   rw [if_pos hf2]
   refine gg ?_
   refine Ku (s:=x.v) (by omega) ?_
   refine gg ?_
   refine wS (p:=p) (f:=f) b (kE x f) ve vr vb pv pq hx ?_
   refine vE (x:=kE x f) (o4 c0) fun ρ hρ=>?_
   have hK:=hK ρ hρ
   unfold cy at hK
   rw [if_neg n6,if_pos c0] at hK
   repeat' (first | (with_reducible refine G.joini0 ?_) | (with_reducible refine G.joini1 ?_) | (with_reducible refine G.drew ?_) | (simp (maxSteps:=2000000) only [↓RG,RP,RB,BEq.rfl,Int.reduceEq,Int.reduceLT,Int.reduceLE,Nat.reduceEqDiff]))
   exact hK
  ·have hK:=hK ρ0 hρ0
   unfold cy at hK
   rw [if_neg n6,if_neg c0] at hK
   have hout:∀e er J,G w0 (ob eA b (fi (jI x f) e er (-1))::M) J→G w0 (ob fb pq (16,ny 16 x.rd ⟨f.stripe,f.lock.version⟩)::ob jm p f::own b (x.cells (.iface 215 (ptr p 0)) (ptr p 0) ve (.pointer none) vr vb pv pq)::ob km (vr,pv) x.run::sl bx vb x.blocks::ob cY pv x.v::M) (CP Tryz.prog go [ptr b 0,i64 e,i64 er,i64 (-1)] (fun _=>J)):=fun e er J hJ=>by
    refine wS (p:=p) (f:=f) b (jI x f) ve vr vb pv pq hx ?_
    exact i8 (x:=jI x f) hJ
   by_cases c14:l7 16 x.rd ⟨f.stripe,f.lock.version⟩=14
   ·rw [if_pos c14] at hK
    rw [c14]
    refine gg ?_
    exact(hout 5 0 _ hK).sub
   ·rw [if_neg c14] at hK
    refine gf (an c0 c14) ?_
    exact(hout 4 _ _ hK).sub
theorem CV (ho:LF x)(h0:x.inn.fin≠0)(h5:x.inn.fin≠5)[i:au L eA b x C](hK:∀ρ,cx ρ→G w0 (C (ob eA b (gS ρ x))) (K (.tuple #[]))):G w0 L (CP Tryz.prog Yr [ptr b 0] K):=by
 refine i.useA (A':=fun z:{ ρ // cx ρ }=>ob eA b (gS z.1 x)) (F':=fun _=>K (.tuple #[])) (fun M hK=>?_) (fun z=>hK z.1 z.2)
 have hK:∀ρ,cx ρ→G w0 (ob eA b (gS ρ x)::M) (K (.tuple #[])):=fun ρ h=>hK ⟨ρ,h⟩
 refine sr ?_
 unfold li
 cases hx:x.inn with
 | none=>have:=ho.ok;rw [hx] at this;exact this.elim
 | fetch f =>
  obtain⟨s3,hr⟩:=ho.fetch f hx
  rw [hx] at h0 h5
  have h0:f.pat.fin≠0:=h0
  have h5:f.pat.fin≠5:=h5
  have hr:Jm x f:=by
   rcases hr with g | g | g
   ·exact absurd g h0
   ·exact absurd g h5
   ·exact g
  simp only [gS,hx] at hK
  rw [cn]
  intro iv vf ve vc vr vb pv pq
  refine gf (eq_true s3) ?_
  refine dL b x iv vf ve vc vr vb pv pq ?_
  refine AE (x:=x) (f:=f) hx hr fun ρ hρ=>?_
  repeat' (first | (with_reducible refine G.joini0 ?_) | (with_reducible refine G.joini1 ?_) | (with_reducible refine G.drew ?_) | (simp (maxSteps:=2000000) only [↓RG,RP,RB,BEq.rfl,Int.reduceEq,Int.reduceLT,Int.reduceLE,Nat.reduceEqDiff]))
  exact hK ρ hρ
 | ext e =>
  obtain⟨s4,hf⟩:=ho.ext e hx
  rw [hx] at h0 h5
  have h0:e.pat.fin≠0:=h0
  have h5:e.pat.fin≠5:=h5
  have hf2:e.pat.fin=2:=by omega
  obtain⟨ρ0,hρ0⟩:=rt
  have hK:=hK ρ0 hρ0
  simp only [gS,hx] at hK
  rw [cn]
  intro iv vf ve vc vr vb pv pq
  refine G.take1 gy (iv,vf,ve,vc) ?_
  rw [hx,pp]
  rintro p ⟨e1,e2,e3⟩
  subst e1 e2 e3
  have n3:x.state≠3:=by omega
  by_cases c4:x.state=4
  ·rw [if_pos c4] at hK
   repeat' (first | (with_reducible refine G.joini0 ?_) | (with_reducible refine G.joini1 ?_) | (with_reducible refine G.drew ?_) | (simp (maxSteps:=2000000) only [↓RG,RP,RB,BEq.rfl,Int.reduceEq,Int.reduceLT,Int.reduceLE,Nat.reduceEqDiff,n3,eq_true c4]))
   refine mB (x:=e) ?_
   rw [if_pos hf2]
   refine gg ?_
   refine uT (s:=x.v) ?_
   refine IA (p:=p) (f:=e) b { x with stamp:=e.stamp } vf vr vb pv pq hx ?_
   refine xV (x:={ x with stamp:=e.stamp }) (c:=x.v.need) (by show x.inn.isCom=false;rw [hx]) ?_
   repeat' (first | (with_reducible refine G.joini0 ?_) | (with_reducible refine G.joini1 ?_) | (with_reducible refine G.drew ?_) | (simp (maxSteps:=2000000) only [↓RG,RP,RB,BEq.rfl,Int.reduceEq,Int.reduceLT,Int.reduceLE,Nat.reduceEqDiff]))
   exact hK
  ·rw [if_neg c4] at hK
   have c5:x.state=5:=by omega
   repeat' (first | (with_reducible refine G.joini0 ?_) | (with_reducible refine G.joini1 ?_) | (with_reducible refine G.drew ?_) | (simp (maxSteps:=2000000) only [↓RG,RP,RB,BEq.rfl,Int.reduceEq,Int.reduceLT,Int.reduceLE,Nat.reduceEqDiff,n3,c4,eq_true c5]))
   refine mB (x:=e) ?_
   rw [if_pos hf2]
   refine gg ?_
   refine IA (p:=p) (f:=e) b { x with stamp:=e.stamp } vf vr vb pv pq hx ?_
   refine i8 (x:={ x with stamp:=e.stamp }) ?_
   repeat' (first | (with_reducible refine G.joini0 ?_) | (with_reducible refine G.joini1 ?_) | (with_reducible refine G.drew ?_) | (simp (maxSteps:=2000000) only [↓RG,RP,RB,BEq.rfl,Int.reduceEq,Int.reduceLT,Int.reduceLE,Nat.reduceEqDiff]))
   rw [←hx] at hK
   exact hK
 | com m =>
  have s6:=ho.com m hx
  obtain⟨ρ0,hρ0⟩:=rt
  have hK:=hK ρ0 hρ0
  simp only [gS,hx] at hK
  rw [cn]
  intro iv vf ve vc vr vb pv pq
  refine G.take1 gy (iv,vf,ve,vc) ?_
  rw [hx,pE]
  rintro p ⟨e1,e3⟩
  subst e1 e3
  have n3:x.state≠3:=by omega
  have n4:x.state≠4:=by omega
  have n5:x.state≠5:=by omega
  repeat' (first | (with_reducible refine G.joini0 ?_) | (with_reducible refine G.joini1 ?_) | (with_reducible refine G.drew ?_) | (simp (maxSteps:=2000000) only [↓RG,RP,RB,BEq.rfl,Int.reduceEq,Int.reduceLT,Int.reduceLE,Nat.reduceEqDiff,n3,n4,n5,eq_true s6]))
  refine ki (x:=m) ?_
  refine gg ?_
  refine xr (x:=m) ?_
  refine gg ?_
  refine HX (p:=p) (f:=m) b x vf ve vr vb pv pq hx ?_
  refine i8 (x:=x) ?_
  refine gg ?_
  exact hK
theorem pM (hK:G w0 (ob eA b (fM x)::M) (K (.tuple #[]))):G w0 (ob eA b x::M) (CP Tryz.prog VN [ptr b 0] (fun x6=>ai x6 (aj (ptr b 0) (fun x7=>ac 18 x7 (fun x8=>aa x8 (fun x9=>CP Tryz.prog WL [x9] (fun x10=>aj (ptr b 0) (fun x11=>ac 21 x11 (fun x12=>ah 1 x12 x10 (fun _=>K (.tuple #[]))))))))) (K (.tuple #[])))):=by
 refine lO (x:=x) ?_
 unfold fM at hK
 cases hw:x.wr
 ·rw [if_neg (by rw [hw];decide)] at hK
  refine gr ?_
  exact hK
 ·rw [if_pos hw] at hK
  have hi:x.inn.wr=true:=by
   unfold bi.wr at hw
   simp only [Bool.and_eq_true] at hw
   exact hw.2
  cases hx:x.inn with
  | none=>rw [hx] at hi;cases hi
  | fetch f=>rw [hx] at hi;cases hi
  | ext f=>rw [hx] at hi;cases hi
  | com m =>
   simp only [hx] at hK
   rw [cn]
   intro iv vf ve vc vr vb pv pq
   refine G.take1 gy (iv,vf,ve,vc) ?_
   rw [hx,pE]
   rintro p ⟨e1,e3⟩
   subst e1 e3
   refine gr ?_
   refine uj (x:=m) ?_
   refine gr ?_
   refine HX (p:=p) (f:=m) b { x with stamp:=rG.stamp (.com m) } vf ve vr vb pv pq hx ?_
   have e:({ x with stamp:=rG.stamp (.com m) }:bi)={ me:=x.me,s:=x.s,run:=x.run,blocks:=x.blocks,given:=x.given,v:=x.v,rd:=x.rd,state:=x.state,inn:=.com m,begun:=x.begun,beg:=x.beg,stamp:=rG.stamp (.com m),fin:=x.fin,by_:=x.by_,err:=x.err,blocking:=x.blocking }:=by rw [hx]
   rw [e]
   exact hK
theorem Dy (ho:LF x)[i:au L eA b x C](hK:∀ρ,cx ρ→G w0 (C (ob eA b (dN ρ x))) (K (.tuple #[]))):G w0 L (CP Tryz.prog Yi [ptr b 0] K):=by
 refine i.useA (A':=fun z:{ ρ // cx ρ }=>ob eA b (dN z.1 x)) (F':=fun _=>K (.tuple #[])) (fun M hK=>?_) (fun z=>hK z.1 z.2)
 have hK:∀ρ,cx ρ→G w0 (ob eA b (dN ρ x)::M) (K (.tuple #[])):=fun ρ h=>hK ⟨ρ,h⟩
 refine sK ?_
 unfold lK
 rw [cn]
 intro iv vf ve vc vr vb pv pq
 refine gg ?_
 refine G.take1 gy (iv,vf,ve,vc) ?_
 refine Sf ho.ok ?_
 obtain⟨ρ0,hρ0⟩:=rt
 by_cases h0:x.inn.fin=0
 ·have hK:=hK ρ0 hρ0
  unfold dN at hK
  rw [if_pos h0] at hK
  refine gf h0 ?_
  refine dL b x iv vf ve vc vr vb pv pq ?_
  refine pM (x:=x) ?_
  exact hK
 ·by_cases h5:x.inn.fin=5
  ·have hK:=hK ρ0 hρ0
   unfold dN at hK
   rw [if_neg h0,if_pos h5] at hK
   repeat' (first | (with_reducible refine G.joini0 ?_) | (with_reducible refine G.joini1 ?_) | (with_reducible refine G.drew ?_) | (simp (maxSteps:=2000000) only [↓RG,RP,RB,BEq.rfl,Int.reduceEq,Int.reduceLT,Int.reduceLE,Nat.reduceEqDiff,h0,h5]))
   refine TC ho.ok ?_
   repeat' (first | (with_reducible refine G.joini0 ?_) | (with_reducible refine G.joini1 ?_) | (with_reducible refine G.drew ?_) | (simp (maxSteps:=2000000) only [↓RG,RP,RB,BEq.rfl,Int.reduceEq,Int.reduceLT,Int.reduceLE,Nat.reduceEqDiff]))
   refine dL b x iv vf ve vc vr vb pv pq ?_
   refine i8 (x:=x) ?_
   repeat' (first | (with_reducible refine G.joini0 ?_) | (with_reducible refine G.joini1 ?_) | (with_reducible refine G.drew ?_) | (simp (maxSteps:=2000000) only [↓RG,RP,RB,BEq.rfl,Int.reduceEq,Int.reduceLT,Int.reduceLE,Nat.reduceEqDiff]))
   refine pM (x:=fi x 5 0 x.inn.by_) ?_
   exact hK
  ·refine gf (an h0 h5) ?_
   refine dL b x iv vf ve vc vr vb pv pq ?_
   refine CV (x:=x) ho h0 h5 fun ρ hρ=>?_
   have hK:=hK ρ hρ
   unfold dN at hK
   rw [if_neg h0,if_neg h5] at hK
   repeat' (first | (with_reducible refine G.joini0 ?_) | (with_reducible refine G.joini1 ?_) | (with_reducible refine G.drew ?_) | (simp (maxSteps:=2000000) only [↓RG,RP,RB,BEq.rfl,Int.reduceEq,Int.reduceLT,Int.reduceLE,Nat.reduceEqDiff]))
   refine pM (x:=gS ρ x) ?_
   exact hK
theorem EQ {a:eW}(ho:ni x a)[i:au L eA b x C](hK:∀ρ,cx ρ→G w0 (C (ob eA b (ao ρ x a))) (K (.tuple #[]))):G w0 L (CP Tryz.prog XZ [ptr b 0,.agg (eW.cells a).toArray] K):=by
 refine i.useA (A':=fun z:{ ρ // cx ρ }=>ob eA b (ao z.1 x a)) (F':=fun _=>K (.tuple #[])) (fun M hK=>?_) (fun z=>hK z.1 z.2)
 have hK:∀ρ,cx ρ→G w0 (ob eA b (ao ρ x a)::M) (K (.tuple #[])):=fun ρ h=>hK ⟨ρ,h⟩
 refine tH ?_
 unfold lJ
 refine G.box fun q=>?_
 rw [fC,cn]
 intro iv vf ve vc vr vb pv pq
 have he:=ho.err
 obtain⟨ρ0,hρ0⟩:=rt
 have hK0:=hK ρ0 hρ0
 unfold ao at hK0
 by_cases s8:x.state=8
 ·rw [if_pos s8,cn] at hK0
  refine gf (eq_true s8) ?_
  exact(hK0 iv vf ve vc vr vb pv pq).sub
 rw [if_neg s8] at hK0
 by_cases s0:x.state=0
 ·rw [if_pos s0,cn] at hK0
  repeat' (first | (with_reducible refine G.joini0 ?_) | (with_reducible refine G.joini1 ?_) | (with_reducible refine G.drew ?_) | (simp (maxSteps:=2000000) only [↓RG,RP,RB,BEq.rfl,Int.reduceEq,Int.reduceLT,Int.reduceLE,Nat.reduceEqDiff,s8,eq_true s0,eq_true he]))
  exact(hK0 iv vf ve vc vr vb pv pq).sub
 rw [if_neg s0] at hK0
 by_cases s1:x.state=1
 ·rw [if_pos s1,cn] at hK0
  repeat' (first | (with_reducible refine G.joini0 ?_) | (with_reducible refine G.joini1 ?_) | (with_reducible refine G.drew ?_) | (simp (maxSteps:=2000000) only [↓RG,RP,RB,BEq.rfl,Int.reduceEq,Int.reduceLT,Int.reduceLE,Nat.reduceEqDiff,s8,s0,eq_true s1,eq_true he]))
  exact(hK0 iv vf ve vc vr vb pv pq).sub
 rw [if_neg s1] at hK0
 by_cases s2:x.state=2
 ·have g1:=ho.work s2
  refine gf (an s8 (an s0 (an s1 (an (eq_true s2) (eq_true he))))) ?_
  refine dL b x iv vf ve vc vr vb pv pq ?_
  refine vE (x:=x) g1 fun ρ hρ=>?_
  have hK:=hK ρ hρ
  unfold ao at hK
  rw [if_neg s8,if_neg s0,if_neg s1,if_pos s2] at hK
  repeat' (first | (with_reducible refine G.joini0 ?_) | (with_reducible refine G.joini1 ?_) | (with_reducible refine G.drew ?_) | (simp (maxSteps:=2000000) only [↓RG,RP,RB,BEq.rfl,Int.reduceEq,Int.reduceLT,Int.reduceLE,Nat.reduceEqDiff]))
  exact hK.sub
 rw [if_neg s2] at hK0
 by_cases s7:x.state=7
 ·rw [if_pos s7,cn] at hK0
  repeat' (first | (with_reducible refine G.joini0 ?_) | (with_reducible refine G.joini1 ?_) | (with_reducible refine G.drew ?_) | (simp (maxSteps:=2000000) only [↓RG,RP,RB,BEq.rfl,Int.reduceEq,Int.reduceLT,Int.reduceLE,Nat.reduceEqDiff,s8,s0,s1,s2,eq_true s7,eq_true he]))
  exact(hK0 iv vf ve vc vr vb pv pq).sub
 rw [if_neg s7] at hK0
 obtain⟨g1,g2⟩:=ho.inn s0 s1 s2 s7 s8
 repeat' (first | (with_reducible refine G.joini0 ?_) | (with_reducible refine G.joini1 ?_) | (with_reducible refine G.drew ?_) | (simp (maxSteps:=2000000) only [↓RG,RP,RB,BEq.rfl,Int.reduceEq,Int.reduceLT,Int.reduceLE,Nat.reduceEqDiff,s8,s0,s1,s2,s7,eq_true he]))
 refine G.take1 gy (iv,vf,ve,vc) ?_
 refine PQ g1 ?_
 refine gg ?_
 refine dL b { x with inn:=x.inn.tell a } iv vf ve vc vr vb pv pq ?_
 refine Dy (x:={ x with inn:=x.inn.tell a }) g2 fun ρ hρ=>?_
 have hK:=hK ρ hρ
 unfold ao at hK
 rw [if_neg s8,if_neg s0,if_neg s1,if_neg s2,if_neg s7] at hK
 repeat' (first | (with_reducible refine G.joini0 ?_) | (with_reducible refine G.joini1 ?_) | (with_reducible refine G.drew ?_) | (simp (maxSteps:=2000000) only [↓RG,RP,RB,BEq.rfl,Int.reduceEq,Int.reduceLT,Int.reduceLE,Nat.reduceEqDiff]))
 exact hK.sub
theorem Fg (ho:x.state≠0→x.state≠1→x.state≠2→x.state≠7→x.state≠8→x.inn.ok)[i:au L eA b x C](hK:G w0 L (K (.tuple #[.agg (pD.cells (be x).1).toArray,.bool (be x).2]))):G w0 L (CP Tryz.prog XY [ptr b 0] K):=by
 refine i.ro (fun M hK=>?_) hK
 refine sV ?_
 unfold lD
 refine G.new fun q=>?_
 rw [fC]
 rw [cn] at *
 intro iv vf ve vc vr vb pv pq
 have hK:=hK iv vf ve vc vr vb pv pq
 unfold be at hK
 by_cases s0:x.state=0
 ·rw [if_pos s0] at hK
  refine gf (eq_true s0) ?_
  exact hK.sub
 rw [if_neg s0] at hK
 by_cases s1:x.state=1
 ·rw [if_pos s1] at hK
  refine gf (an s0 (eq_true s1)) ?_
  exact hK.sub
 rw [if_neg s1] at hK
 by_cases s2:x.state=2
 ·rw [if_pos s2] at hK
  repeat' (first | (with_reducible refine G.joini0 ?_) | (with_reducible refine G.joini1 ?_) | (with_reducible refine G.drew ?_) | (simp (maxSteps:=2000000) only [↓RG,RP,RB,BEq.rfl,Int.reduceEq,Int.reduceLT,Int.reduceLE,Nat.reduceEqDiff,s0,s1,eq_true s2]))
  exact hK.sub
 rw [if_neg s2] at hK
 by_cases s7:x.state=7
 ·rw [if_pos s7] at hK
  refine gf (an s0 (an s1 (an s2 (eq_true s7)))) ?_
  exact hK.sub
 rw [if_neg s7] at hK
 by_cases s8:x.state=8
 ·rw [if_pos s8] at hK
  refine gf (an s0 (an s1 (an s2 (an s7 (eq_true s8))))) ?_
  exact hK.sub
 rw [if_neg s8] at hK
 refine gf (an s0 (an s1 (an s2 (an s7 s8)))) ?_
 refine G.take1 gy (iv,vf,ve,vc) ?_
 refine QD (ho s0 s1 s2 s7 s8) ?_
 refine gg ?_
 exact hK.sub
end
end Go.Proofs.YtoealglbimbbmaaGreatDoor.S
