import Derived.Test.YtoealglbimbbmaaGreatDoorOPr
namespace Go.Proofs.YtoealglbimbbmaaGreatDoor.S
open Go Go.Proofs
set_option linter.unusedVariables false
set_option linter.unusedSimpArgs false
def gK (k:Value×Value×Value×Value):tH→ay
 | .none=>ie (k.2.2.2=.pointer none)
 | .fetch f=>mW fun p=>bk (ie (k.1=.iface 215 (ptr p 0)∧k.2.1=ptr p 0∧k.2.2.2=.pointer none)) (ob jI p f)
 | .ext x=>mW fun p=>bk (ie (k.1=.iface 216 (ptr p 0)∧k.2.2.1=ptr p 0∧k.2.2.2=.pointer none)) (ob Ah p x)
 | .com x=>mW fun p=>bk (ie (k.1=.iface 217 (ptr p 0)∧k.2.2.2=ptr p 0)) (ob iH p x)
abbrev bq.cells (x:bq)(iv vf ve vc:Value)(vr vb:Value)(pv pq:Nat):List Value:=[i64 x.me,i64 x.s.words,i64 x.s.stripes,i64 x.s.wide,i64 x.s.threads,u64 x.s.start,i64 x.s.spins,i64 x.s.writes,i64 x.s.fuel,vr,vb,i64 x.given,ptr pv 0,ptr pq 0,i64 x.state,iv,vf,ve,vc,.bool x.begun,u64 x.beg,u64 x.stamp,i64 x.fin,i64 x.by_,i64 x.err,.bool x.blocking]
def kD (k:Value×Nat):Option fm→ay
 | none=>ie (k.1=.pointer none)
 | some r=>mW fun p=>bk (ie (k.1=ptr p 0)) (ob eN (p,k.2) r)
def fG (b:Nat)(x:bq):ay:=mW fun iv=>mW fun vf=>mW fun ve=>mW fun vc=>mW fun vr=>mW fun vb=>mW fun pv=>mW fun pq=>bk (bk (bk (bk (bk (own b (x.cells iv vf ve vc vr vb pv pq)) (ob kD (vr,pv) x.run)) (sl bg vb x.blocks)) (ob br pv x.v)) (ob fv pq (16,x.rd))) (ob gK (iv,vf,ve,vc) x.inn)
section
variable {w0:bh}{L M:List ay}{K:KV}{F:World→Prop}{C:ay→List ay}{b pv pq:Nat}{x:bq}{v iv vf ve vc vr vb:Value}
theorem ca:G w0 (ob fG b x::M) F=∀iv vf ve vc vr vb pv pq,G w0 (own b (x.cells iv vf ve vc vr vb pv pq)::ob kD (vr,pv) x.run::sl bg vb x.blocks::ob br pv x.v::ob fv pq (16,x.rd)::ob gK (iv,vf,ve,vc) x.inn::M) F:=by
 rw [eZ,fG]
 simp only [qv,fa]
theorem ey (b:Nat)(x:bq)(iv vf ve vc:Value)(vr vb:Value)(pv pq:Nat) [ez [own b (x.cells iv vf ve vc vr vb pv pq),ob kD (vr,pv) x.run,sl bg vb x.blocks,ob br pv x.v,ob fv pq (16,x.rd),ob gK (iv,vf,ve,vc) x.inn] L M](H:G w0 (ob fG b x::M) F):G w0 L F :=
 G.pickAll (As:=[own b (x.cells iv vf ve vc vr vb pv pq),ob kD (vr,pv) x.run,sl bg vb x.blocks,ob br pv x.v,ob fv pq (16,x.rd),ob gK (iv,vf,ve,vc) x.inn]) (by rw [ca] at H;exact H iv vf ve vc vr vb pv pq)
theorem BS:G w0 (ob kD (vr,pv) none::M) F=(vr=.pointer none→G w0 M F):=by rw [eZ,kD];simp only [fU]
theorem BE {r:fm}:G w0 (ob kD (vr,pv) (some r)::M) F=∀p,vr=ptr p 0→G w0 (ob eN (p,pv) r::M) F:=by rw [eZ,kD];simp only [qv,fa,fU]
theorem BP (p pv:Nat)(r:fm) [ez [ob eN (p,pv) r] L M](H:G w0 (ob kD (ptr p 0,pv) (some r)::M) F):G w0 L F :=
 G.pickAll (As:=[ob eN (p,pv) r]) (by rw [BE] at H;exact H p rfl)
theorem DZ (pv:Nat)(H:G w0 (ob kD (.pointer none,pv) none::M) F):G w0 M F:=by rw [BS] at H;exact H rfl
theorem vT:G w0 (ob gK (iv,vf,ve,vc) .none::M) F=(vc=.pointer none→G w0 M F):=by
 rw [eZ,gK];simp only [fU]
theorem jL {f:fT}:G w0 (ob gK (iv,vf,ve,vc) (.fetch f)::M) F=∀p,(iv=.iface 215 (ptr p 0)∧vf=ptr p 0∧vc=.pointer none)→G w0 (ob jI p f::M) F:=by
 rw [eZ,gK];simp only [qv,fa,fU]
theorem pS {f:u9}:G w0 (ob gK (iv,vf,ve,vc) (.ext f)::M) F=∀p,(iv=.iface 216 (ptr p 0)∧ve=ptr p 0∧vc=.pointer none)→G w0 (ob Ah p f::M) F:=by
 rw [eZ,gK];simp only [qv,fa,fU]
theorem pU {f:eJ}:G w0 (ob gK (iv,vf,ve,vc) (.com f)::M) F=∀p,(iv=.iface 217 (ptr p 0)∧vc=ptr p 0)→G w0 (ob iH p f::M) F:=by
 rw [eZ,gK];simp only [qv,fa,fU]
theorem xI {p:Nat}{f:fT}(b:Nat)(x:bq)(ve:Value)(vr vb:Value)(pv pq:Nat)(hx:x.inn=.fetch f)
  [ez [own b (x.cells (.iface 215 (ptr p 0)) (ptr p 0) ve (.pointer none) vr vb pv pq),ob kD (vr,pv) x.run,sl bg vb x.blocks,ob br pv x.v,ob fv pq (16,x.rd),ob jI p f] L M] (H:G w0 (ob fG b x::M) F):G w0 L F :=
 G.pickAll (As:=[own b (x.cells (.iface 215 (ptr p 0)) (ptr p 0) ve (.pointer none) vr vb pv pq),ob kD (vr,pv) x.run,sl bg vb x.blocks,ob br pv x.v,ob fv pq (16,x.rd),ob jI p f]) (by
  rw [ca] at H
  have h:=H (.iface 215 (ptr p 0)) (ptr p 0) ve (.pointer none) vr vb pv pq
  rw [hx] at h
  have h2:=G.sub (L:=ob gK (.iface 215 (ptr p 0),ptr p 0,ve,.pointer none) (.fetch f)::own b (x.cells (.iface 215 (ptr p 0)) (ptr p 0) ve (.pointer none) vr vb pv pq)::ob kD (vr,pv) x.run::sl bg vb x.blocks::ob br pv x.v::ob fv pq (16,x.rd)::M) h
  rw [jL] at h2
  simp only [List.cons_append,List.nil_append]
  exact(h2 p ⟨rfl,rfl,rfl⟩).sub)
theorem Jq {p:Nat}{f:u9}(b:Nat)(x:bq)(vf:Value)(vr vb:Value)(pv pq:Nat)(hx:x.inn=.ext f)
  [ez [own b (x.cells (.iface 216 (ptr p 0)) vf (ptr p 0) (.pointer none) vr vb pv pq),ob kD (vr,pv) x.run,sl bg vb x.blocks,ob br pv x.v,ob fv pq (16,x.rd),ob Ah p f] L M] (H:G w0 (ob fG b x::M) F):G w0 L F :=
 G.pickAll (As:=[own b (x.cells (.iface 216 (ptr p 0)) vf (ptr p 0) (.pointer none) vr vb pv pq),ob kD (vr,pv) x.run,sl bg vb x.blocks,ob br pv x.v,ob fv pq (16,x.rd),ob Ah p f]) (by
  rw [ca] at H
  have h:=H (.iface 216 (ptr p 0)) vf (ptr p 0) (.pointer none) vr vb pv pq
  rw [hx] at h
  have h2:=G.sub (L:=ob gK (.iface 216 (ptr p 0),vf,ptr p 0,.pointer none) (.ext f)::own b (x.cells (.iface 216 (ptr p 0)) vf (ptr p 0) (.pointer none) vr vb pv pq)::ob kD (vr,pv) x.run::sl bg vb x.blocks::ob br pv x.v::ob fv pq (16,x.rd)::M) h
  rw [pS] at h2
  simp only [List.cons_append,List.nil_append]
  exact(h2 p ⟨rfl,rfl,rfl⟩).sub)
theorem IJ {p:Nat}{f:eJ}(b:Nat)(x:bq)(vf ve:Value)(vr vb:Value)(pv pq:Nat)(hx:x.inn=.com f)
  [ez [own b (x.cells (.iface 217 (ptr p 0)) vf ve (ptr p 0) vr vb pv pq),ob kD (vr,pv) x.run,sl bg vb x.blocks,ob br pv x.v,ob fv pq (16,x.rd),ob iH p f] L M] (H:G w0 (ob fG b x::M) F):G w0 L F :=
 G.pickAll (As:=[own b (x.cells (.iface 217 (ptr p 0)) vf ve (ptr p 0) vr vb pv pq),ob kD (vr,pv) x.run,sl bg vb x.blocks,ob br pv x.v,ob fv pq (16,x.rd),ob iH p f]) (by
  rw [ca] at H
  have h:=H (.iface 217 (ptr p 0)) vf ve (ptr p 0) vr vb pv pq
  rw [hx] at h
  have h2:=G.sub (L:=ob gK (.iface 217 (ptr p 0),vf,ve,ptr p 0) (.com f)::own b (x.cells (.iface 217 (ptr p 0)) vf ve (ptr p 0) vr vb pv pq)::ob kD (vr,pv) x.run::sl bg vb x.blocks::ob br pv x.v::ob fv pq (16,x.rd)::M) h
  rw [pU] at h2
  simp only [List.cons_append,List.nil_append]
  exact(h2 p ⟨rfl,rfl⟩).sub)
theorem Qz {n hi:Int}(h:0≤hi):(if (if hi<n then hi else n) > 0 then (if hi<n then hi else n) else 0)=held n 0 hi:=jK h
theorem qg {s:eO}(hK:G w0 L (K (.agg (eO.cells (dj s)).toArray))):G w0 L (CP Tryz.prog VF [.agg (eO.cells s).toArray] K):=by
 refine FK ?_
 unfold xG
 refine G.box fun q=>?_
 refine G.new fun q2=>?_
 refine G.drew ?_
 refine gr ?_
 refine FE (s:=⟨s.words,s.stripes,s.wide,s.threads,s.start⟩) ?_
 refine gr ?_
 rw [Qz (n:=s.spins) (by omega),Qz (n:=s.writes) (by omega),Qz (n:=s.fuel) (by omega)]
 exact hK.sub
theorem uE {me:Int}{s:eO}(hK:∀b pv pq,G w0 (own b ((qt me s).cells .nilIface (.pointer none) (.pointer none) (.pointer none) (.pointer none) (.slice none 0 0) pv pq)::ob br pv (qt me s).v::ob fv pq (16,(qt me s).rd)::L) (K (ptr b 0))):G w0 L (CP Tryz.prog Wn [i64 me,.agg (eO.cells s).toArray] K):=by
 have e1:held (dj s).words 32 256=(dj s).words:=fK (by omega)
 have e2:held (dj s).writes 0 96=(dj s).writes:=fK (by omega)
 refine DG ?_
 unfold uk
 refine G.box fun q3=>?_
 refine gr ?_
 refine qg ?_
 repeat' (first | (with_reducible refine G.joini0 ?_) | (with_reducible refine G.joini1 ?_) | (with_reducible refine G.drew ?_) | (simp (maxSteps:=2000000) only [↓RG,RP,RB,BEq.rfl,Int.reduceEq,Int.reduceLT,Int.reduceLE,Nat.reduceEqDiff]))
 refine Ma fun pv=>?_
 rw [e1,e2]
 refine gg ?_
 refine J9 fun pq=>?_
 rw [show held 16 1 16=16 from rfl]
 refine gg ?_
 refine G.box fun b=>?_
 refine gg ?_
 exact(hK b pv pq).sub
theorem GN {me:Int}{s:eO}{p:List bu}[r:Rd w0 L v dt 5 p](hv:ar v [v])(h:p.length≤1000000)(hK:∀b,G w0 (ob fG b (kV me s p)::L) (K (ptr b 0))):G w0 L (CP Tryz.prog X2 [i64 me,.agg (eO.cells s).toArray,.agg #[v]] K):=by
 have e3:held (dj s).fuel 0 400=(dj s).fuel:=fK (by omega)
 refine Gv ?_
 unfold zj
 refine G.box fun q1=>?_
 refine G.box fun q2=>?_
 refine gr ?_
 refine uE fun b pv pq=>?_
 repeat' (first | (with_reducible refine G.joini0 ?_) | (with_reducible refine G.joini1 ?_) | (with_reducible refine G.drew ?_) | (simp (maxSteps:=2000000) only [↓RG,RP,RB,BEq.rfl,Int.reduceEq,Int.reduceLT,Int.reduceLE,Nat.reduceEqDiff]))
 refine IQ (vp:=pv) (p:=p) hv h fun pr=>?_
 repeat' (first | (with_reducible refine G.joini0 ?_) | (with_reducible refine G.joini1 ?_) | (with_reducible refine G.drew ?_) | (simp (maxSteps:=2000000) only [↓RG,RP,RB,BEq.rfl,Int.reduceEq,Int.reduceLT,Int.reduceLE,Nat.reduceEqDiff]))
 refine BP pr pv (BG p (dj s).fuel) ?_
 refine G.nilsl bg ?_
 have hK:=hK b
 rw [ca] at hK
 have hk:=hK .nilIface (.pointer none) (.pointer none) (.pointer none) (ptr pr 0) (.slice none 0 0) pv pq
 have h2:=G.sub (L:=ob gK (.nilIface,.pointer none,.pointer none,.pointer none) .none::own b ((kV me s p).cells .nilIface (.pointer none) (.pointer none) (.pointer none) (ptr pr 0) (.slice none 0 0) pv pq)::ob kD (ptr pr 0,pv) (kV me s p).run::sl bg (.slice none 0 0) (kV me s p).blocks::ob br pv (kV me s p).v::ob fv pq (16,(kV me s p).rd)::L) hk
 rw [vT] at h2
 have h3:=h2 rfl
 exact h3.sub
theorem DH {me:Int}{s:eO}{bs:List Int}[r:Rd w0 L v bg 1 bs](h:bs.length≤1000000)(hK:∀b,G w0 (ob fG b (iz me s bs)::L) (K (ptr b 0))):G w0 L (CP Tryz.prog X0 [i64 me,.agg (eO.cells s).toArray,v] K):=by
 refine DP ?_
 unfold uv
 refine G.box fun q1=>?_
 refine gg ?_
 refine uE fun b pv pq=>?_
 refine gg ?_
 refine iP (xs:=bs) h fun u hu=>?_
 refine gg ?_
 refine DZ pv ?_
 have hK:=hK b
 rw [ca] at hK
 have hk:=hK .nilIface (.pointer none) (.pointer none) (.pointer none) (.pointer none) u pv pq
 have h2:=G.sub (L:=ob gK (.nilIface,.pointer none,.pointer none,.pointer none) .none::own b ((iz me s bs).cells .nilIface (.pointer none) (.pointer none) (.pointer none) (.pointer none) u pv pq)::ob kD (.pointer none,pv) none::sl bg u bs::ob br pv (iz me s bs).v::ob fv pq (16,(iz me s bs).rd)::L) hk
 rw [vT] at h2
 have h3:=h2 rfl
 exact h3.sub
end
end Go.Proofs.YtoealglbimbbmaaGreatDoor.S
namespace Go.Proofs.YtoealglbimbbmaaGreatDoor.S
open Go Go.Proofs
set_option linter.unusedVariables false
set_option linter.unusedSimpArgs false
theorem Nx (p:Nat)(w:World):(method (Tryz.prog.types.size+Made.depth) 215 (ptr p 0) "Next").run Tryz.prog w=.ok (Y0,ptr p 0) w:=by kernel_rfl
theorem N1 (p:Nat)(w:World):(method (Tryz.prog.types.size+Made.depth) 215 (ptr p 0) "Tell").run Tryz.prog w=.ok (Y1,ptr p 0) w:=by kernel_rfl
theorem Oz (p:Nat)(w:World):(method (Tryz.prog.types.size+Made.depth) 215 (ptr p 0) "End").run Tryz.prog w=.ok (Vt,ptr p 0) w:=by kernel_rfl
theorem On (p:Nat)(w:World):(method (Tryz.prog.types.size+Made.depth) 215 (ptr p 0) "By").run Tryz.prog w=.ok (YZ,ptr p 0) w:=by kernel_rfl
theorem N3 (p:Nat)(w:World):(method (Tryz.prog.types.size+Made.depth) 216 (ptr p 0) "Next").run Tryz.prog w=.ok (Y4,ptr p 0) w:=by kernel_rfl
theorem Oy (p:Nat)(w:World):(method (Tryz.prog.types.size+Made.depth) 216 (ptr p 0) "Tell").run Tryz.prog w=.ok (Y5,ptr p 0) w:=by kernel_rfl
theorem Nu (p:Nat)(w:World):(method (Tryz.prog.types.size+Made.depth) 216 (ptr p 0) "End").run Tryz.prog w=.ok (WB,ptr p 0) w:=by kernel_rfl
theorem N5 (p:Nat)(w:World):(method (Tryz.prog.types.size+Made.depth) 216 (ptr p 0) "By").run Tryz.prog w=.ok (Y3,ptr p 0) w:=by kernel_rfl
theorem NJ (p:Nat)(w:World):(method (Tryz.prog.types.size+Made.depth) 217 (ptr p 0) "Next").run Tryz.prog w=.ok (Y7,ptr p 0) w:=by kernel_rfl
theorem NY (p:Nat)(w:World):(method (Tryz.prog.types.size+Made.depth) 217 (ptr p 0) "Tell").run Tryz.prog w=.ok (Y8,ptr p 0) w:=by kernel_rfl
theorem Oo (p:Nat)(w:World):(method (Tryz.prog.types.size+Made.depth) 217 (ptr p 0) "End").run Tryz.prog w=.ok (Vm,ptr p 0) w:=by kernel_rfl
theorem O6 (p:Nat)(w:World):(method (Tryz.prog.types.size+Made.depth) 217 (ptr p 0) "By").run Tryz.prog w=.ok (Y6,ptr p 0) w:=by kernel_rfl
section
variable {w0:bh}{L M:List ay}{K:KV}{F:World→Prop}{C:ay→List ay}{b pv pq:Nat}{x:bq}{v iv vf ve vc vr vb:Value}{i:tH}
theorem G.inv {t:TypeId}{name:String}{v:Value}{f:FuncId}{args:List Value}(hm:∀w,(method (Tryz.prog.types.size+Made.depth) t v name).run Tryz.prog w=.ok (f,v) w)(h:G w0 L (CP Tryz.prog f (v::args) K)):G w0 L (El Tryz.prog (.iface t v) name args K) :=
 fun w H=>⟨f,v,hm w,h w H⟩
theorem Se (ho:i.ok)(hK:G w0 (ob gK (iv,vf,ve,vc) i::M) (K (i64 i.fin))):G w0 (ob gK (iv,vf,ve,vc) i::M) (El Tryz.prog iv "End" [] K):=by
 cases i with
 | none=>exact ho.elim
 | fetch f=>rw [jL] at *;intro p h;have hK:=hK p h;rw [h.1];exact G.inv (Oz p) (ji (f:=f) hK)
 | ext f=>rw [pS] at *;intro p h;have hK:=hK p h;rw [h.1];exact G.inv (Nu p) (pJ (x:=f) hK)
 | com f=>rw [pU] at *;intro p h;have hK:=hK p h;rw [h.1];exact G.inv (Oo p) (km (x:=f) hK)
theorem SS (ho:i.ok)(hK:G w0 (ob gK (iv,vf,ve,vc) i::M) (K (i64 i.by_))):G w0 (ob gK (iv,vf,ve,vc) i::M) (El Tryz.prog iv "By" [] K):=by
 cases i with
 | none=>exact ho.elim
 | fetch f=>rw [jL] at *;intro p h;have hK:=hK p h;rw [h.1];exact G.inv (On p) (B6 (f:=f) hK)
 | ext f=>rw [pS] at *;intro p h;have hK:=hK p h;rw [h.1];exact G.inv (N5 p) (Aa (x:=f) hK)
 | com f=>rw [pU] at *;intro p h;have hK:=hK p h;rw [h.1];exact G.inv (O6 p) (zR (x:=f) hK)
theorem PS (ho:i.ok)(hK:G w0 (ob gK (iv,vf,ve,vc) i::M) (K (.tuple #[.agg (rv.cells i.next.1).toArray,.bool i.next.2]))):G w0 (ob gK (iv,vf,ve,vc) i::M) (El Tryz.prog iv "Next" [] K):=by
 cases i with
 | none=>exact ho.elim
 | fetch f=>rw [jL] at *;intro p h;have hK:=hK p h;rw [h.1];exact G.inv (Nx p) (zS (f:=f) hK)
 | ext f=>rw [pS] at *;intro p h;have hK:=hK p h;rw [h.1];exact G.inv (N3 p) (xx ho.1 hK)
 | com f=>rw [pU] at *;intro p h;have hK:=hK p h;rw [h.1];exact G.inv (NJ p) (xp ho hK)
theorem P9 {a:fH}(ho:i.ok)(hK:G w0 (ob gK (iv,vf,ve,vc) (i.tell a)::M) (K (.tuple #[]))):G w0 (ob gK (iv,vf,ve,vc) i::M) (El Tryz.prog iv "Tell" [.agg (fH.cells a).toArray] K):=by
 cases i with
 | none=>exact ho.elim
 | fetch f=>rw [jL] at *;intro p h;have hK:=hK p h;rw [h.1];exact G.inv (N1 p) (zV (f:=f) hK)
 | ext f=>rw [pS] at *;intro p h;have hK:=hK p h;rw [h.1];exact G.inv (Oy p) (w5 ho.1 ho.2 hK)
 | com f=>rw [pU] at *;intro p h;have hK:=hK p h;rw [h.1];exact G.inv (NY p) (v7 ho hK)
theorem ic [i:aq L fG b x C](hK:G w0 L (K (i64 (if x.state=8 then x.fin else 0)))):G w0 L (CP Tryz.prog GE [ptr b 0] K):=by
 refine i.ro (fun M hK=>?_) hK
 refine vz ?_
 unfold mN
 rw [ca] at *
 intro iv vf ve vc vr vb pv pq
 have hK:=hK iv vf ve vc vr vb pv pq
 by_cases h:x.state=8
 ·rw [if_pos h] at hK
  refine eY (eq_true h) ?_
  exact hK
 ·rw [if_neg h] at hK
  refine eY h ?_
  exact hK
theorem zp [i:aq L fG b x C](hK:G w0 L (K (i64 (if x.state=8 then x.err else 0)))):G w0 L (CP Tryz.prog Wi [ptr b 0] K):=by
 refine i.ro (fun M hK=>?_) hK
 refine vB ?_
 unfold mJ
 rw [ca] at *
 intro iv vf ve vc vr vb pv pq
 have hK:=hK iv vf ve vc vr vb pv pq
 by_cases h:x.state=8
 ·rw [if_pos h] at hK
  refine eY (eq_true h) ?_
  exact hK
 ·rw [if_neg h] at hK
  refine eY h ?_
  exact hK
theorem p6 [i:aq L fG b x C](hK:G w0 L (K (i64 (if x.state=8 then x.by_ else -1)))):G w0 L (CP Tryz.prog VG [ptr b 0] K):=by
 refine i.ro (fun M hK=>?_) hK
 refine w8 ?_
 unfold oD
 rw [ca] at *
 intro iv vf ve vc vr vb pv pq
 have hK:=hK iv vf ve vc vr vb pv pq
 by_cases h:x.state=8
 ·rw [if_pos h] at hK
  refine eY (eq_true h) ?_
  exact hK
 ·rw [if_neg h] at hK
  refine eY h ?_
  exact hK
theorem kL [i:aq L fG b x C](hK:G w0 L (K (.tuple #[u64 x.beg,.bool x.begun]))):G w0 L (CP Tryz.prog Vk [ptr b 0] K):=by
 refine i.ro (fun M hK=>?_) hK
 refine sR ?_
 unfold lj
 rw [ca] at *
 intro iv vf ve vc vr vb pv pq
 have hK:=hK iv vf ve vc vr vb pv pq
 refine G.drew ?_
 refine gr ?_
 exact hK
theorem pp [i:aq L fG b x C](hK:G w0 L (K (u64 x.stamp))):G w0 L (CP Tryz.prog VH [ptr b 0] K):=by
 refine i.ro (fun M hK=>?_) hK
 refine so ?_
 unfold kZ
 rw [ca] at *
 intro iv vf ve vc vr vb pv pq
 have hK:=hK iv vf ve vc vr vb pv pq
 refine gr ?_
 exact hK
theorem z7 [i:aq L fG b x C](hK:G w0 L (K (.bool (!decide (x.state=8) && x.blocking)))):G w0 L (CP Tryz.prog XS [ptr b 0] K):=by
 refine i.ro (fun M hK=>?_) hK
 refine qo ?_
 unfold jr
 rw [ca] at *
 intro iv vf ve vc vr vb pv pq
 have hK:=hK iv vf ve vc vr vb pv pq
 refine gu ?_
 by_cases h:x.state=8
 ·rw [decide_eq_true h] at hK
  refine eY (eq_true h) ?_
  exact hK
 ·rw [decide_eq_false h] at hK
  refine eY h ?_
  exact hK
theorem Eu (hl:x.rd.length≤1000000)[i:aq L fG b x C](hK:∀u,ar u [u]→G w0 (sl gq u x.rd::L) (K u)):G w0 L (CP Tryz.prog XR [ptr b 0] K):=by
 refine i.roN (fun M hK=>?_) hK
 refine tV ?_
 unfold lL
 rw [ca]
 intro iv vf ve vc vr vb pv pq
 refine gr ?_
 refine mm (xs:=x.rd) hl fun u hu=>?_
 refine gr ?_
 refine ey b x iv vf ve vc vr vb pv pq ?_
 exact(hK u hu).sub
theorem DS (hl:x.v.k.length≤1000000)[i:aq L fG b x C](hK:∀u,ar u [u]→G w0 (sl bf u x.v.k::L) (K u)):G w0 L (CP Tryz.prog X4 [ptr b 0] K):=by
 refine i.roN (fun M hK=>?_) hK
 refine tc ?_
 unfold ly
 rw [ca]
 intro iv vf ve vc vr vb pv pq
 refine gr ?_
 refine IH (s:=x.v) hl fun u hu=>?_
 refine gr ?_
 refine ey b x iv vf ve vc vr vb pv pq ?_
 exact(hK u hu).sub
theorem lI [i:aq L fG b x C](hK:G w0 L (K (.bool x.wr))):G w0 L (CP Tryz.prog Vl [ptr b 0] K):=by
 refine i.ro (fun M hK=>?_) hK
 refine ri ?_
 unfold jX
 rw [ca] at *
 intro iv vf ve vc vr vb pv pq
 have hK:=hK iv vf ve vc vr vb pv pq
 refine gu ?_
 by_cases h:x.state=8
 ·have hw:x.wr=false:=by unfold bq.wr;simp [h]
  rw [hw] at hK
  refine eY (eq_true h) ?_
  exact hK
 ·have hw:x.wr=x.inn.wr:=by unfold bq.wr;simp [h]
  rw [hw] at hK
  cases hi:x.inn with
  | none =>
   rw [hi] at hK
   have hK:G w0 (ob gK (iv,vf,ve,vc) .none::own b (x.cells iv vf ve vc vr vb pv pq)::ob kD (vr,pv) x.run::sl bg vb x.blocks::ob br pv x.v::ob fv pq (16,x.rd)::M) (K (.bool false)):=hK.sub
   rw [vT] at hK
   refine G.take1 gK (iv,vf,ve,vc) ?_
   rw [vT]
   intro e
   have hK:=hK e
   subst e
   refine eY h ?_
   exact hK
  | fetch f =>
   rw [hi] at hK
   have hK:G w0 (ob gK (iv,vf,ve,vc) (.fetch f)::own b (x.cells iv vf ve vc vr vb pv pq)::ob kD (vr,pv) x.run::sl bg vb x.blocks::ob br pv x.v::ob fv pq (16,x.rd)::M) (K (.bool false)):=hK.sub
   rw [jL] at hK
   refine G.take1 gK (iv,vf,ve,vc) ?_
   rw [jL]
   intro p e
   have hK:=hK p e
   obtain⟨e1,e2,e3⟩:=e
   subst e3
   refine eY h ?_
   exact hK
  | ext f =>
   rw [hi] at hK
   have hK:G w0 (ob gK (iv,vf,ve,vc) (.ext f)::own b (x.cells iv vf ve vc vr vb pv pq)::ob kD (vr,pv) x.run::sl bg vb x.blocks::ob br pv x.v::ob fv pq (16,x.rd)::M) (K (.bool false)):=hK.sub
   rw [pS] at hK
   refine G.take1 gK (iv,vf,ve,vc) ?_
   rw [pS]
   intro p e
   have hK:=hK p e
   obtain⟨e1,e2,e3⟩:=e
   subst e3
   refine eY h ?_
   exact hK
  | com f =>
   rw [hi] at hK
   have hK:G w0 (ob gK (iv,vf,ve,vc) (.com f)::own b (x.cells iv vf ve vc vr vb pv pq)::ob kD (vr,pv) x.run::sl bg vb x.blocks::ob br pv x.v::ob fv pq (16,x.rd)::M) (K (.bool ((f.writing && decide (f.pat.fin=0)) || decide (f.pat.fin=2)))):=hK.sub
   rw [pU] at hK
   refine G.take1 gK (iv,vf,ve,vc) ?_
   rw [pU]
   intro p e
   have hK:=hK p e
   obtain⟨e1,e3⟩:=e
   subst e3
   refine eY h ?_
   refine sE (x:=f) ?_
   refine gr ?_
   refine G.any (decide (f.pat.fin=2)) (fun _ K hK=>?_) ?_
   ·refine gr ?_
    refine km (x:=f) ?_
    refine gr ?_
    exact hK
   ·exact hK
theorem kv [i:aq L fG b x C](hK:G w0 L (K (.bool x.done))):G w0 L (CP Tryz.prog VK [ptr b 0] K):=by
 refine i.ro (fun M hK=>?_) hK
 refine pX ?_
 unfold jj
 refine ic (x:=x) ?_
 refine gu ?_
 refine gr ?_
 refine G.any x.wr (fun _ K hK=>?_) ?_
 ·refine gr ?_
  refine lI (x:=x) ?_
  exact hK
 ·exact hK
theorem DE [i:aq L fG b x C](hK:∀u:lD,G w0 (sl bf u.v (if x.done then x.v.l.cells else [])::L) (K u.v)):G w0 L (CP Tryz.prog X5 [ptr b 0] K):=by
 refine i.roN (P:=fun _=>True) (N:=fun u:lD=>sl bf u.v (if x.done then x.v.l.cells else [])) (F':=fun u=>K u.v) (fun M hK=>?_) (fun u _=>hK u)
 have hK:=fun u=>hK u trivial
 refine sB ?_
 unfold lx
 refine kv (x:=x) ?_
 cases hd:x.done
 ·simp only [hd,Bool.false_eq_true,if_false] at hK
  refine gr ?_
  refine G.nilsl bf ?_
  exact hK ⟨none,0,0⟩
 ·simp only [hd,if_true] at hK
  refine gr ?_
  rw [ca]
  intro iv vf ve vc vr vb pv pq
  refine gr ?_
  refine Bk (s:=x.v) fun u hu=>?_
  refine ey b x iv vf ve vc vr vb pv pq ?_
  refine G.isSl (v:=u) fun s hs=>?_
  subst hs
  exact(hK s).sub
theorem uC (hf:x.done=true→x.v.l.frees.length≤1000000)(hb:x.blocks.length≤1000000)[i:aq L fG b x C](hK:∀u:lD,G w0 (sl bg u.v x.freed::L) (K u.v)):G w0 L (CP Tryz.prog Wk [ptr b 0] K):=by
 refine i.roN (P:=fun _=>True) (N:=fun u:lD=>sl bg u.v x.freed) (F':=fun u=>K u.v) (fun M hK=>?_) (fun u _=>hK u)
 have hK:=fun u=>hK u trivial
 refine sM ?_
 unfold lr
 refine kv (x:=x) ?_
 cases hd:x.done
 ·simp only [bq.freed,hd,Bool.false_eq_true,if_false] at hK
  refine gr ?_
  refine G.nilsl bg ?_
  exact hK ⟨none,0,0⟩
 ·refine gr ?_
  rw [ca]
  intro iv vf ve vc vr vb pv pq
  cases hr:x.run with
  | none =>
   simp only [bq.freed,hd,if_true,hr] at hK
   refine G.take1 kD (vr,pv) ?_
   rw [BS]
   intro e
   subst e
   refine gr ?_
   refine iP (xs:=x.blocks) hb fun u hu=>?_
   refine DZ pv ?_
   rw [←hr]
   refine ey b x iv vf ve vc (.pointer none) vb pv pq ?_
   refine G.isSl (v:=u) fun s hs=>?_
   subst hs
   exact(hK s).sub
  | some r =>
   simp only [bq.freed,hd,if_true,hr] at hK
   refine G.take1 kD (vr,pv) ?_
   rw [BE]
   intro p e
   subst e
   refine gr ?_
   refine I7 (s:=x.v) (hf hd) fun u hu=>?_
   refine BP p pv r ?_
   rw [←hr]
   refine ey b x iv vf ve vc (ptr p 0) vb pv pq ?_
   refine G.isSl (v:=u) fun s hs=>?_
   subst hs
   exact(hK s).sub
theorem ut (ht:uR w0)(hs:x.done=true→Bd x.items)[i:aq L fG b x C](hK:∀s,uS x s→G w0 L (K (.string s))):G w0 L (CP Tryz.prog Wj [ptr b 0] K):=by
 refine i.roN (P:=uS x) (N:=fun _=>LF) (F':=fun s=>K (.string s)) (fun M hK=>?_) (fun s hs=>by rw [Jz];exact hK s hs)
 simp only [Jz] at hK
 refine sV ?_
 unfold ld
 refine kv (x:=x) ?_
 refine gu ?_
 cases hd:x.done
 ·refine gr ?_
  exact hK ⟨#[]⟩ (fun g=>by rw [hd] at g;cases g)
 ·refine gr ?_
  rw [ca]
  intro iv vf ve vc vr vb pv pq
  have hs:=hs hd
  cases hr:x.run with
  | none =>
   refine G.take1 kD (vr,pv) ?_
   rw [BS]
   intro e
   subst e
   refine gr ?_
   refine DZ pv ?_
   rw [←hr]
   refine ey b x iv vf ve vc (.pointer none) vb pv pq ?_
   exact(hK ⟨#[]⟩ (fun _ r g=>by rw [hr] at g;cases g)).sub
  | some r =>
   have hs:Bd r.items:=by unfold bq.items at hs;rw [hr] at hs;exact hs
   refine G.take1 kD (vr,pv) ?_
   rw [BE]
   intro p e
   subst e
   refine gr ?_
   refine ER (vp:=pv) (x:=r) (by have:=hs.1;omega) fun c=>?_
   refine gr ?_
   refine IE ht (xs:=r.items) hs fun s hsl=>?_
   refine BP p pv r ?_
   rw [←hr]
   refine ey b x iv vf ve vc (ptr p 0) vb pv pq ?_
   exact(hK s (fun _ q g=>by rw [hr] at g;cases g;exact hsl)).sub
end
end Go.Proofs.YtoealglbimbbmaaGreatDoor.S
