import Derived.Test.YtoealglbimbbmaaGreatDoorRPr
namespace Go.Proofs.YtoealglbimbbmaaGreatDoor.S
open Go Go.Proofs
set_option linter.unusedVariables false
set_option linter.unusedSimpArgs false
def gh (k:Value×Value×Value×Value):tY→ax
 | .none=>fS (k.2.2.2=.pointer none)
 | .fetch f=>jX fun p=>bu (fS (k.1=.iface 215 (ptr p 0)∧k.2.1=ptr p 0∧k.2.2.2=.pointer none)) (ob jh p f)
 | .ext x=>jX fun p=>bu (fS (k.1=.iface 216 (ptr p 0)∧k.2.2.1=ptr p 0∧k.2.2.2=.pointer none)) (ob AO p x)
 | .com x=>jX fun p=>bu (fS (k.1=.iface 217 (ptr p 0)∧k.2.2.2=ptr p 0)) (ob gX p x)
abbrev ca.cells (x:ca)(iv vf ve vc:Value)(vr vb:Value)(pv pq:Nat):List Value:=[i64 x.me,i64 x.s.words,i64 x.s.stripes,i64 x.s.wide,i64 x.s.threads,u64 x.s.start,i64 x.s.spins,i64 x.s.writes,i64 x.s.fuel,vr,vb,i64 x.given,ptr pv 0,ptr pq 0,i64 x.state,iv,vf,ve,vc,.bool x.begun,u64 x.beg,u64 x.stamp,i64 x.fin,i64 x.by_,i64 x.err,.bool x.blocking]
def j6 (k:Value×Nat):Option fk→ax
 | none=>fS (k.1=.pointer none)
 | some r=>jX fun p=>bu (fS (k.1=ptr p 0)) (ob dU (p,k.2) r)
def em (b:Nat)(x:ca):ax:=jX fun iv=>jX fun vf=>jX fun ve=>jX fun vc=>jX fun vr=>jX fun vb=>jX fun pv=>jX fun pq=>bu (bu (bu (bu (bu (own b (x.cells iv vf ve vc vr vb pv pq)) (ob j6 (vr,pv) x.run)) (sl cd vb x.blocks)) (ob ba pv x.v)) (ob eU pq (16,x.rd))) (ob gh (iv,vf,ve,vc) x.inn)
section
variable {w0:bg}{L M:List ax}{K:KV}{F:World→Prop}{C:ax→List ax}{b pv pq:Nat}{x:ca}{v iv vf ve vc vr vb:Value}
theorem cv:G w0 (ob em b x::M) F=∀iv vf ve vc vr vb pv pq,G w0 (own b (x.cells iv vf ve vc vr vb pv pq)::ob j6 (vr,pv) x.run::sl cd vb x.blocks::ob ba pv x.v::ob eU pq (16,x.rd)::ob gh (iv,vf,ve,vc) x.inn::M) F:=by
 rw [dO,em]
 simp only [lT,dP]
theorem dL (b:Nat)(x:ca)(iv vf ve vc:Value)(vr vb:Value)(pv pq:Nat) [cx [own b (x.cells iv vf ve vc vr vb pv pq),ob j6 (vr,pv) x.run,sl cd vb x.blocks,ob ba pv x.v,ob eU pq (16,x.rd),ob gh (iv,vf,ve,vc) x.inn] L M](H:G w0 (ob em b x::M) F):G w0 L F :=
 G.pickAll (As:=[own b (x.cells iv vf ve vc vr vb pv pq),ob j6 (vr,pv) x.run,sl cd vb x.blocks,ob ba pv x.v,ob eU pq (16,x.rd),ob gh (iv,vf,ve,vc) x.inn]) (by rw [cv] at H;exact H iv vf ve vc vr vb pv pq)
theorem Cd:G w0 (ob j6 (vr,pv) none::M) F=(vr=.pointer none→G w0 M F):=by rw [dO,j6];simp only [eS]
theorem B2 {r:fk}:G w0 (ob j6 (vr,pv) (some r)::M) F=∀p,vr=ptr p 0→G w0 (ob dU (p,pv) r::M) F:=by rw [dO,j6];simp only [lT,dP,eS]
theorem BN (p pv:Nat)(r:fk) [cx [ob dU (p,pv) r] L M](H:G w0 (ob j6 (ptr p 0,pv) (some r)::M) F):G w0 L F :=
 G.pickAll (As:=[ob dU (p,pv) r]) (by rw [B2] at H;exact H p rfl)
theorem E7 (pv:Nat)(H:G w0 (ob j6 (.pointer none,pv) none::M) F):G w0 M F:=by rw [Cd] at H;exact H rfl
theorem wn:G w0 (ob gh (iv,vf,ve,vc) .none::M) F=(vc=.pointer none→G w0 M F):=by
 rw [dO,gh];simp only [eS]
theorem ju {f:ft}:G w0 (ob gh (iv,vf,ve,vc) (.fetch f)::M) F=∀p,(iv=.iface 215 (ptr p 0)∧vf=ptr p 0∧vc=.pointer none)→G w0 (ob jh p f::M) F:=by
 rw [dO,gh];simp only [lT,dP,eS]
theorem pB {f:uS}:G w0 (ob gh (iv,vf,ve,vc) (.ext f)::M) F=∀p,(iv=.iface 216 (ptr p 0)∧ve=ptr p 0∧vc=.pointer none)→G w0 (ob AO p f::M) F:=by
 rw [dO,gh];simp only [lT,dP,eS]
theorem pH {f:dR}:G w0 (ob gh (iv,vf,ve,vc) (.com f)::M) F=∀p,(iv=.iface 217 (ptr p 0)∧vc=ptr p 0)→G w0 (ob gX p f::M) F:=by
 rw [dO,gh];simp only [lT,dP,eS]
theorem yf {p:Nat}{f:ft}(b:Nat)(x:ca)(ve:Value)(vr vb:Value)(pv pq:Nat)(hx:x.inn=.fetch f)
  [cx [own b (x.cells (.iface 215 (ptr p 0)) (ptr p 0) ve (.pointer none) vr vb pv pq),ob j6 (vr,pv) x.run,sl cd vb x.blocks,ob ba pv x.v,ob eU pq (16,x.rd),ob jh p f] L M] (H:G w0 (ob em b x::M) F):G w0 L F :=
 G.pickAll (As:=[own b (x.cells (.iface 215 (ptr p 0)) (ptr p 0) ve (.pointer none) vr vb pv pq),ob j6 (vr,pv) x.run,sl cd vb x.blocks,ob ba pv x.v,ob eU pq (16,x.rd),ob jh p f]) (by
  rw [cv] at H
  have h:=H (.iface 215 (ptr p 0)) (ptr p 0) ve (.pointer none) vr vb pv pq
  rw [hx] at h
  have h2:=G.sub (L:=ob gh (.iface 215 (ptr p 0),ptr p 0,ve,.pointer none) (.fetch f)::own b (x.cells (.iface 215 (ptr p 0)) (ptr p 0) ve (.pointer none) vr vb pv pq)::ob j6 (vr,pv) x.run::sl cd vb x.blocks::ob ba pv x.v::ob eU pq (16,x.rd)::M) h
  rw [ju] at h2
  simp only [List.cons_append,List.nil_append]
  exact(h2 p ⟨rfl,rfl,rfl⟩).sub)
theorem KQ {p:Nat}{f:uS}(b:Nat)(x:ca)(vf:Value)(vr vb:Value)(pv pq:Nat)(hx:x.inn=.ext f)
  [cx [own b (x.cells (.iface 216 (ptr p 0)) vf (ptr p 0) (.pointer none) vr vb pv pq),ob j6 (vr,pv) x.run,sl cd vb x.blocks,ob ba pv x.v,ob eU pq (16,x.rd),ob AO p f] L M] (H:G w0 (ob em b x::M) F):G w0 L F :=
 G.pickAll (As:=[own b (x.cells (.iface 216 (ptr p 0)) vf (ptr p 0) (.pointer none) vr vb pv pq),ob j6 (vr,pv) x.run,sl cd vb x.blocks,ob ba pv x.v,ob eU pq (16,x.rd),ob AO p f]) (by
  rw [cv] at H
  have h:=H (.iface 216 (ptr p 0)) vf (ptr p 0) (.pointer none) vr vb pv pq
  rw [hx] at h
  have h2:=G.sub (L:=ob gh (.iface 216 (ptr p 0),vf,ptr p 0,.pointer none) (.ext f)::own b (x.cells (.iface 216 (ptr p 0)) vf (ptr p 0) (.pointer none) vr vb pv pq)::ob j6 (vr,pv) x.run::sl cd vb x.blocks::ob ba pv x.v::ob eU pq (16,x.rd)::M) h
  rw [pB] at h2
  simp only [List.cons_append,List.nil_append]
  exact(h2 p ⟨rfl,rfl,rfl⟩).sub)
theorem K8 {p:Nat}{f:dR}(b:Nat)(x:ca)(vf ve:Value)(vr vb:Value)(pv pq:Nat)(hx:x.inn=.com f)
  [cx [own b (x.cells (.iface 217 (ptr p 0)) vf ve (ptr p 0) vr vb pv pq),ob j6 (vr,pv) x.run,sl cd vb x.blocks,ob ba pv x.v,ob eU pq (16,x.rd),ob gX p f] L M] (H:G w0 (ob em b x::M) F):G w0 L F :=
 G.pickAll (As:=[own b (x.cells (.iface 217 (ptr p 0)) vf ve (ptr p 0) vr vb pv pq),ob j6 (vr,pv) x.run,sl cd vb x.blocks,ob ba pv x.v,ob eU pq (16,x.rd),ob gX p f]) (by
  rw [cv] at H
  have h:=H (.iface 217 (ptr p 0)) vf ve (ptr p 0) vr vb pv pq
  rw [hx] at h
  have h2:=G.sub (L:=ob gh (.iface 217 (ptr p 0),vf,ve,ptr p 0) (.com f)::own b (x.cells (.iface 217 (ptr p 0)) vf ve (ptr p 0) vr vb pv pq)::ob j6 (vr,pv) x.run::sl cd vb x.blocks::ob ba pv x.v::ob eU pq (16,x.rd)::M) h
  rw [pH] at h2
  simp only [List.cons_append,List.nil_append]
  exact(h2 p ⟨rfl,rfl⟩).sub)
theorem Sw {n hi:Int}(h:0≤hi):(if (if hi<n then hi else n) > 0 then (if hi<n then hi else n) else 0)=held n 0 hi:=jt h
theorem qn {s:dQ}(hK:G w0 L (K (.agg (dQ.cells (dv s)).toArray))):G w0 L (CP Tryz.prog X4 [.agg (dQ.cells s).toArray] K):=by
 refine GU ?_
 unfold wz
 refine G.box fun q=>?_
 refine G.new fun q2=>?_
 refine G.drew ?_
 refine gr ?_
 refine F2 (s:=⟨s.words,s.stripes,s.wide,s.threads,s.start⟩) ?_
 refine gr ?_
 rw [Sw (n:=s.spins) (by omega),Sw (n:=s.writes) (by omega),Sw (n:=s.fuel) (by omega)]
 exact hK.sub
theorem uL {me:Int}{s:dQ}(hK:∀b pv pq,G w0 (own b ((qb me s).cells .nilIface (.pointer none) (.pointer none) (.pointer none) (.pointer none) (.slice none 0 0) pv pq)::ob ba pv (qb me s).v::ob eU pq (16,(qb me s).rd)::L) (K (ptr b 0))):G w0 L (CP Tryz.prog YM [i64 me,.agg (dQ.cells s).toArray] K):=by
 have e1:held (dv s).words 32 256=(dv s).words:=fo (by omega)
 have e2:held (dv s).writes 0 96=(dv s).writes:=fo (by omega)
 refine EA ?_
 unfold uv
 refine G.box fun q3=>?_
 refine gr ?_
 refine qn ?_
 repeat' (first | (with_reducible refine G.joini0 ?_) | (with_reducible refine G.joini1 ?_) | (with_reducible refine G.drew ?_) | (simp (maxSteps:=2000000) only [↓RG,RP,RB,BEq.rfl,Int.reduceEq,Int.reduceLT,Int.reduceLE,Nat.reduceEqDiff]))
 refine GP fun pv=>?_
 rw [e1,e2]
 refine gg ?_
 refine M8 fun pq=>?_
 rw [show held 16 1 16=16 from rfl]
 refine gg ?_
 refine G.box fun b=>?_
 refine gg ?_
 exact(hK b pv pq).sub
theorem IE {me:Int}{s:dQ}{p:List dD}[r:Rd w0 L v fv 5 p](hv:av v [v])(h:ir p)(hK:∀b,G w0 (ob em b (kv me s p)::L) (K (ptr b 0))):G w0 L (CP Tryz.prog aam [i64 me,.agg (dQ.cells s).toArray,.agg #[v]] K):=by
 have e3:held (dv s).fuel 0 400=(dv s).fuel:=fo (by omega)
 refine IB ?_
 unfold zm
 refine G.box fun q1=>?_
 refine G.box fun q2=>?_
 refine gr ?_
 refine uL fun b pv pq=>?_
 repeat' (first | (with_reducible refine G.joini0 ?_) | (with_reducible refine G.joini1 ?_) | (with_reducible refine G.drew ?_) | (simp (maxSteps:=2000000) only [↓RG,RP,RB,BEq.rfl,Int.reduceEq,Int.reduceLT,Int.reduceLE,Nat.reduceEqDiff]))
 refine Kg (vp:=pv) (p:=p) hv h fun pr=>?_
 repeat' (first | (with_reducible refine G.joini0 ?_) | (with_reducible refine G.joini1 ?_) | (with_reducible refine G.drew ?_) | (simp (maxSteps:=2000000) only [↓RG,RP,RB,BEq.rfl,Int.reduceEq,Int.reduceLT,Int.reduceLE,Nat.reduceEqDiff]))
 refine BN pr pv (Cj p (dv s).fuel) ?_
 refine G.nilsl cd ?_
 have hK:=hK b
 rw [cv] at hK
 have hk:=hK .nilIface (.pointer none) (.pointer none) (.pointer none) (ptr pr 0) (.slice none 0 0) pv pq
 have h2:=G.sub (L:=ob gh (.nilIface,.pointer none,.pointer none,.pointer none) .none::own b ((kv me s p).cells .nilIface (.pointer none) (.pointer none) (.pointer none) (ptr pr 0) (.slice none 0 0) pv pq)::ob j6 (ptr pr 0,pv) (kv me s p).run::sl cd (.slice none 0 0) (kv me s p).blocks::ob ba pv (kv me s p).v::ob eU pq (16,(kv me s p).rd)::L) hk
 rw [wn] at h2
 have h3:=h2 rfl
 exact h3.sub
theorem Ew {me:Int}{s:dQ}{bs:List Int}[r:Rd w0 L v cd 1 bs](h:bs.length≤1000000)(hK:∀b,G w0 (ob em b (gT me s bs)::L) (K (ptr b 0))):G w0 L (CP Tryz.prog aan [i64 me,.agg (dQ.cells s).toArray,v] K):=by
 refine ET ?_
 unfold uK
 refine G.box fun q1=>?_
 refine gg ?_
 refine uL fun b pv pq=>?_
 refine gg ?_
 refine ij (xs:=bs) h fun u hu=>?_
 refine gg ?_
 refine E7 pv ?_
 have hK:=hK b
 rw [cv] at hK
 have hk:=hK .nilIface (.pointer none) (.pointer none) (.pointer none) (.pointer none) u pv pq
 have h2:=G.sub (L:=ob gh (.nilIface,.pointer none,.pointer none,.pointer none) .none::own b ((gT me s bs).cells .nilIface (.pointer none) (.pointer none) (.pointer none) (.pointer none) u pv pq)::ob j6 (.pointer none,pv) none::sl cd u bs::ob ba pv (gT me s bs).v::ob eU pq (16,(gT me s bs).rd)::L) hk
 rw [wn] at h2
 have h3:=h2 rfl
 exact h3.sub
end
end Go.Proofs.YtoealglbimbbmaaGreatDoor.S
namespace Go.Proofs.YtoealglbimbbmaaGreatDoor.S
open Go Go.Proofs
set_option linter.unusedVariables false
set_option linter.unusedSimpArgs false
theorem QL (p:Nat)(w:World):(method (Tryz.prog.types.size+Made.depth) 215 (ptr p 0) "Next").run Tryz.prog w=.ok (aao,ptr p 0) w:=by kernel_rfl
theorem Qp (p:Nat)(w:World):(method (Tryz.prog.types.size+Made.depth) 215 (ptr p 0) "Tell").run Tryz.prog w=.ok (aap,ptr p 0) w:=by kernel_rfl
theorem QR (p:Nat)(w:World):(method (Tryz.prog.types.size+Made.depth) 215 (ptr p 0) "End").run Tryz.prog w=.ok (XF,ptr p 0) w:=by kernel_rfl
theorem PZ (p:Nat)(w:World):(method (Tryz.prog.types.size+Made.depth) 215 (ptr p 0) "By").run Tryz.prog w=.ok (aaq,ptr p 0) w:=by kernel_rfl
theorem P0 (p:Nat)(w:World):(method (Tryz.prog.types.size+Made.depth) 216 (ptr p 0) "Next").run Tryz.prog w=.ok (aar,ptr p 0) w:=by kernel_rfl
theorem PJ (p:Nat)(w:World):(method (Tryz.prog.types.size+Made.depth) 216 (ptr p 0) "Tell").run Tryz.prog w=.ok (aas,ptr p 0) w:=by kernel_rfl
theorem Q4 (p:Nat)(w:World):(method (Tryz.prog.types.size+Made.depth) 216 (ptr p 0) "End").run Tryz.prog w=.ok (YN,ptr p 0) w:=by kernel_rfl
theorem PU (p:Nat)(w:World):(method (Tryz.prog.types.size+Made.depth) 216 (ptr p 0) "By").run Tryz.prog w=.ok (aat,ptr p 0) w:=by kernel_rfl
theorem PR (p:Nat)(w:World):(method (Tryz.prog.types.size+Made.depth) 217 (ptr p 0) "Next").run Tryz.prog w=.ok (aau,ptr p 0) w:=by kernel_rfl
theorem Qd (p:Nat)(w:World):(method (Tryz.prog.types.size+Made.depth) 217 (ptr p 0) "Tell").run Tryz.prog w=.ok (aav,ptr p 0) w:=by kernel_rfl
theorem PI (p:Nat)(w:World):(method (Tryz.prog.types.size+Made.depth) 217 (ptr p 0) "End").run Tryz.prog w=.ok (XG,ptr p 0) w:=by kernel_rfl
theorem QI (p:Nat)(w:World):(method (Tryz.prog.types.size+Made.depth) 217 (ptr p 0) "By").run Tryz.prog w=.ok (aaw,ptr p 0) w:=by kernel_rfl
section
variable {w0:bg}{L M:List ax}{K:KV}{F:World→Prop}{C:ax→List ax}{b pv pq:Nat}{x:ca}{v iv vf ve vc vr vb:Value}{i:tY}
theorem G.inv {t:TypeId}{name:String}{v:Value}{f:FuncId}{args:List Value}(hm:∀w,(method (Tryz.prog.types.size+Made.depth) t v name).run Tryz.prog w=.ok (f,v) w)(h:G w0 L (CP Tryz.prog f (v::args) K)):G w0 L (G3 Tryz.prog (.iface t v) name args K) :=
 fun w H=>⟨f,v,hm w,h w H⟩
theorem Tf (ho:i.ok)(hK:G w0 (ob gh (iv,vf,ve,vc) i::M) (K (i64 i.fin))):G w0 (ob gh (iv,vf,ve,vc) i::M) (G3 Tryz.prog iv "End" [] K):=by
 cases i with
 | none=>exact ho.elim
 | fetch f=>rw [ju] at *;intro p h;have hK:=hK p h;rw [h.1];exact G.inv (QR p) (i6 (f:=f) hK)
 | ext f=>rw [pB] at *;intro p h;have hK:=hK p h;rw [h.1];exact G.inv (Q4 p) (pm (x:=f) hK)
 | com f=>rw [pH] at *;intro p h;have hK:=hK p h;rw [h.1];exact G.inv (PI p) (jK (x:=f) hK)
theorem VB (ho:i.ok)(hK:G w0 (ob gh (iv,vf,ve,vc) i::M) (K (i64 i.by_))):G w0 (ob gh (iv,vf,ve,vc) i::M) (G3 Tryz.prog iv "By" [] K):=by
 cases i with
 | none=>exact ho.elim
 | fetch f=>rw [ju] at *;intro p h;have hK:=hK p h;rw [h.1];exact G.inv (PZ p) (Du (f:=f) hK)
 | ext f=>rw [pB] at *;intro p h;have hK:=hK p h;rw [h.1];exact G.inv (PU p) (Az (x:=f) hK)
 | com f=>rw [pH] at *;intro p h;have hK:=hK p h;rw [h.1];exact G.inv (QI p) (zT (x:=f) hK)
theorem Rf (ho:i.ok)(hK:G w0 (ob gh (iv,vf,ve,vc) i::M) (K (.tuple #[.agg (rv.cells i.next.1).toArray,.bool i.next.2]))):G w0 (ob gh (iv,vf,ve,vc) i::M) (G3 Tryz.prog iv "Next" [] K):=by
 cases i with
 | none=>exact ho.elim
 | fetch f=>rw [ju] at *;intro p h;have hK:=hK p h;rw [h.1];exact G.inv (QL p) (An (f:=f) hK)
 | ext f=>rw [pB] at *;intro p h;have hK:=hK p h;rw [h.1];exact G.inv (P0 p) (xD ho.1 hK)
 | com f=>rw [pH] at *;intro p h;have hK:=hK p h;rw [h.1];exact G.inv (PR p) (xl ho hK)
theorem Rr {a:fi}(ho:i.ok)(hK:G w0 (ob gh (iv,vf,ve,vc) (i.tell a)::M) (K (.tuple #[]))):G w0 (ob gh (iv,vf,ve,vc) i::M) (G3 Tryz.prog iv "Tell" [.agg (fi.cells a).toArray] K):=by
 cases i with
 | none=>exact ho.elim
 | fetch f=>rw [ju] at *;intro p h;have hK:=hK p h;rw [h.1];exact G.inv (Qp p) (z3 (f:=f) hK)
 | ext f=>rw [pB] at *;intro p h;have hK:=hK p h;rw [h.1];exact G.inv (PJ p) (xS ho.1 ho.2 hK)
 | com f=>rw [pH] at *;intro p h;have hK:=hK p h;rw [h.1];exact G.inv (Qd p) (xn ho hK)
theorem gE [i:al L em b x C](hK:G w0 L (K (i64 (if x.state=8 then x.fin else 0)))):G w0 L (CP Tryz.prog Xk [ptr b 0] K):=by
 refine i.ro (fun M hK=>?_) hK
 refine vF ?_
 unfold mB
 rw [cv] at *
 intro iv vf ve vc vr vb pv pq
 have hK:=hK iv vf ve vc vr vb pv pq
 by_cases h:x.state=8
 ·rw [if_pos h] at hK
  refine dN (eq_true h) ?_
  exact hK
 ·rw [if_neg h] at hK
  refine dN h ?_
  exact hK
theorem zl [i:al L em b x C](hK:G w0 L (K (i64 (if x.state=8 then x.err else 0)))):G w0 L (CP Tryz.prog YO [ptr b 0] K):=by
 refine i.ro (fun M hK=>?_) hK
 refine vB ?_
 unfold mw
 rw [cv] at *
 intro iv vf ve vc vr vb pv pq
 have hK:=hK iv vf ve vc vr vb pv pq
 by_cases h:x.state=8
 ·rw [if_pos h] at hK
  refine dN (eq_true h) ?_
  exact hK
 ·rw [if_neg h] at hK
  refine dN h ?_
  exact hK
theorem pJ [i:al L em b x C](hK:G w0 L (K (i64 (if x.state=8 then x.by_ else -1)))):G w0 L (CP Tryz.prog X5 [ptr b 0] K):=by
 refine i.ro (fun M hK=>?_) hK
 refine xw ?_
 unfold nK
 rw [cv] at *
 intro iv vf ve vc vr vb pv pq
 have hK:=hK iv vf ve vc vr vb pv pq
 by_cases h:x.state=8
 ·rw [if_pos h] at hK
  refine dN (eq_true h) ?_
  exact hK
 ·rw [if_neg h] at hK
  refine dN h ?_
  exact hK
theorem kf [i:al L em b x C](hK:G w0 L (K (.tuple #[u64 x.beg,.bool x.begun]))):G w0 L (CP Tryz.prog XH [ptr b 0] K):=by
 refine i.ro (fun M hK=>?_) hK
 refine sr ?_
 unfold kx
 rw [cv] at *
 intro iv vf ve vc vr vb pv pq
 have hK:=hK iv vf ve vc vr vb pv pq
 refine G.drew ?_
 refine gr ?_
 exact hK
theorem oN [i:al L em b x C](hK:G w0 L (K (u64 x.stamp))):G w0 L (CP Tryz.prog X6 [ptr b 0] K):=by
 refine i.ro (fun M hK=>?_) hK
 refine tn ?_
 unfold kH
 rw [cv] at *
 intro iv vf ve vc vr vb pv pq
 have hK:=hK iv vf ve vc vr vb pv pq
 refine gr ?_
 exact hK
theorem AU [i:al L em b x C](hK:G w0 L (K (.bool (!decide (x.state=8) && x.blocking)))):G w0 L (CP Tryz.prog aax [ptr b 0] K):=by
 refine i.ro (fun M hK=>?_) hK
 refine qJ ?_
 unfold jf
 rw [cv] at *
 intro iv vf ve vc vr vb pv pq
 have hK:=hK iv vf ve vc vr vb pv pq
 refine gu ?_
 by_cases h:x.state=8
 ·rw [decide_eq_true h] at hK
  refine dN (eq_true h) ?_
  exact hK
 ·rw [decide_eq_false h] at hK
  refine dN h ?_
  exact hK
theorem FA (hl:x.rd.length≤1000000)[i:al L em b x C](hK:∀u,av u [u]→G w0 (sl fM u x.rd::L) (K u)):G w0 L (CP Tryz.prog aay [ptr b 0] K):=by
 refine i.roN (fun M hK=>?_) hK
 refine tA ?_
 unfold lF
 rw [cv]
 intro iv vf ve vc vr vb pv pq
 refine gr ?_
 refine lq (xs:=x.rd) hl fun u hu=>?_
 refine gr ?_
 refine dL b x iv vf ve vc vr vb pv pq ?_
 exact(hK u hu).sub
theorem EY (hl:x.v.k.length≤1000000)[i:al L em b x C](hK:∀u,av u [u]→G w0 (sl bd u x.v.k::L) (K u)):G w0 L (CP Tryz.prog aaz [ptr b 0] K):=by
 refine i.roN (fun M hK=>?_) hK
 refine sx ?_
 unfold kA
 rw [cv]
 intro iv vf ve vc vr vb pv pq
 refine gr ?_
 refine Bd (s:=x.v) hl fun u hu=>?_
 refine gr ?_
 refine dL b x iv vf ve vc vr vb pv pq ?_
 exact(hK u hu).sub
theorem ly [i:al L em b x C](hK:G w0 L (K (.bool x.wr))):G w0 L (CP Tryz.prog XI [ptr b 0] K):=by
 refine i.ro (fun M hK=>?_) hK
 refine q9 ?_
 unfold jz
 rw [cv] at *
 intro iv vf ve vc vr vb pv pq
 have hK:=hK iv vf ve vc vr vb pv pq
 refine gu ?_
 by_cases h:x.state=8
 ·have hw:x.wr=false:=by unfold ca.wr;simp [h]
  rw [hw] at hK
  refine dN (eq_true h) ?_
  exact hK
 ·have hw:x.wr=x.inn.wr:=by unfold ca.wr;simp [h]
  rw [hw] at hK
  cases hi:x.inn with
  | none =>
   rw [hi] at hK
   have hK:G w0 (ob gh (iv,vf,ve,vc) .none::own b (x.cells iv vf ve vc vr vb pv pq)::ob j6 (vr,pv) x.run::sl cd vb x.blocks::ob ba pv x.v::ob eU pq (16,x.rd)::M) (K (.bool false)):=hK.sub
   rw [wn] at hK
   refine G.take1 gh (iv,vf,ve,vc) ?_
   rw [wn]
   intro e
   have hK:=hK e
   subst e
   refine dN h ?_
   exact hK
  | fetch f =>
   rw [hi] at hK
   have hK:G w0 (ob gh (iv,vf,ve,vc) (.fetch f)::own b (x.cells iv vf ve vc vr vb pv pq)::ob j6 (vr,pv) x.run::sl cd vb x.blocks::ob ba pv x.v::ob eU pq (16,x.rd)::M) (K (.bool false)):=hK.sub
   rw [ju] at hK
   refine G.take1 gh (iv,vf,ve,vc) ?_
   rw [ju]
   intro p e
   have hK:=hK p e
   obtain⟨e1,e2,e3⟩:=e
   subst e3
   refine dN h ?_
   exact hK
  | ext f =>
   rw [hi] at hK
   have hK:G w0 (ob gh (iv,vf,ve,vc) (.ext f)::own b (x.cells iv vf ve vc vr vb pv pq)::ob j6 (vr,pv) x.run::sl cd vb x.blocks::ob ba pv x.v::ob eU pq (16,x.rd)::M) (K (.bool false)):=hK.sub
   rw [pB] at hK
   refine G.take1 gh (iv,vf,ve,vc) ?_
   rw [pB]
   intro p e
   have hK:=hK p e
   obtain⟨e1,e2,e3⟩:=e
   subst e3
   refine dN h ?_
   exact hK
  | com f =>
   rw [hi] at hK
   have hK:G w0 (ob gh (iv,vf,ve,vc) (.com f)::own b (x.cells iv vf ve vc vr vb pv pq)::ob j6 (vr,pv) x.run::sl cd vb x.blocks::ob ba pv x.v::ob eU pq (16,x.rd)::M) (K (.bool ((f.writing && decide (f.pat.fin=0)) || decide (f.pat.fin=2)))):=hK.sub
   rw [pH] at hK
   refine G.take1 gh (iv,vf,ve,vc) ?_
   rw [pH]
   intro p e
   have hK:=hK p e
   obtain⟨e1,e3⟩:=e
   subst e3
   refine dN h ?_
   refine sJ (x:=f) ?_
   refine gr ?_
   refine G.any (decide (f.pat.fin=2)) (fun _ K hK=>?_) ?_
   ·refine gr ?_
    refine jK (x:=f) ?_
    refine gr ?_
    exact hK
   ·exact hK
theorem jU [i:al L em b x C](hK:G w0 L (K (.bool x.done))):G w0 L (CP Tryz.prog X7 [ptr b 0] K):=by
 refine i.ro (fun M hK=>?_) hK
 refine pL ?_
 unfold i0
 refine gE (x:=x) ?_
 refine gu ?_
 refine gr ?_
 refine G.any x.wr (fun _ K hK=>?_) ?_
 ·refine gr ?_
  refine ly (x:=x) ?_
  exact hK
 ·exact hK
theorem EH [i:al L em b x C](hK:∀u:im,G w0 (sl bd u.v (if x.done then x.v.l.cells else [])::L) (K u.v)):G w0 L (CP Tryz.prog aaA [ptr b 0] K):=by
 refine i.roN (P:=fun _=>True) (N:=fun u:im=>sl bd u.v (if x.done then x.v.l.cells else [])) (F':=fun u=>K u.v) (fun M hK=>?_) (fun u _=>hK u)
 have hK:=fun u=>hK u trivial
 refine sD ?_
 unfold kM
 refine jU (x:=x) ?_
 cases hd:x.done
 ·simp only [hd,Bool.false_eq_true,if_false] at hK
  refine gr ?_
  refine G.nilsl bd ?_
  exact hK ⟨none,0,0⟩
 ·simp only [hd,if_true] at hK
  refine gr ?_
  rw [cv]
  intro iv vf ve vc vr vb pv pq
  refine gr ?_
  refine pF (s:=x.v) fun u hu=>?_
  refine dL b x iv vf ve vc vr vb pv pq ?_
  refine G.isSl (v:=u) fun s hs=>?_
  subst hs
  exact(hK s).sub
theorem ux (hf:x.done=true→x.v.l.frees.length≤1000000)(hb:x.blocks.length≤1000000)[i:al L em b x C](hK:∀u:im,G w0 (sl cd u.v x.freed::L) (K u.v)):G w0 L (CP Tryz.prog YP [ptr b 0] K):=by
 refine i.roN (P:=fun _=>True) (N:=fun u:im=>sl cd u.v x.freed) (F':=fun u=>K u.v) (fun M hK=>?_) (fun u _=>hK u)
 have hK:=fun u=>hK u trivial
 refine sE ?_
 unfold kC
 refine jU (x:=x) ?_
 cases hd:x.done
 ·simp only [ca.freed,hd,Bool.false_eq_true,if_false] at hK
  refine gr ?_
  refine G.nilsl cd ?_
  exact hK ⟨none,0,0⟩
 ·refine gr ?_
  rw [cv]
  intro iv vf ve vc vr vb pv pq
  cases hr:x.run with
  | none =>
   simp only [ca.freed,hd,if_true,hr] at hK
   refine G.take1 j6 (vr,pv) ?_
   rw [Cd]
   intro e
   subst e
   refine gr ?_
   refine ij (xs:=x.blocks) hb fun u hu=>?_
   refine E7 pv ?_
   rw [←hr]
   refine dL b x iv vf ve vc (.pointer none) vb pv pq ?_
   refine G.isSl (v:=u) fun s hs=>?_
   subst hs
   exact(hK s).sub
  | some r =>
   simp only [ca.freed,hd,if_true,hr] at hK
   refine G.take1 j6 (vr,pv) ?_
   rw [B2]
   intro p e
   subst e
   refine gr ?_
   refine CF (s:=x.v) (hf hd) fun u hu=>?_
   refine BN p pv r ?_
   rw [←hr]
   refine dL b x iv vf ve vc (ptr p 0) vb pv pq ?_
   refine G.isSl (v:=u) fun s hs=>?_
   subst hs
   exact(hK s).sub
theorem uA (ht:vh w0)(hs:x.done=true→BH x.items)[i:al L em b x C](hK:∀s,uf x s→G w0 L (K (.string s))):G w0 L (CP Tryz.prog YQ [ptr b 0] K):=by
 refine i.roN (P:=uf x) (N:=fun _=>NB) (F':=fun s=>K (.string s)) (fun M hK=>?_) (fun s hs=>by rw [Mj];exact hK s hs)
 simp only [Mj] at hK
 refine tc ?_
 unfold kF
 refine jU (x:=x) ?_
 refine gu ?_
 cases hd:x.done
 ·refine gr ?_
  exact hK ⟨#[]⟩ (fun g=>by rw [hd] at g;cases g)
 ·refine gr ?_
  rw [cv]
  intro iv vf ve vc vr vb pv pq
  have hs:=hs hd
  cases hr:x.run with
  | none =>
   refine G.take1 j6 (vr,pv) ?_
   rw [Cd]
   intro e
   subst e
   refine gr ?_
   refine E7 pv ?_
   rw [←hr]
   refine dL b x iv vf ve vc (.pointer none) vb pv pq ?_
   exact(hK ⟨#[]⟩ (fun _ r g=>by rw [hr] at g;cases g)).sub
  | some r =>
   have hs:BH r.items:=by unfold ca.items at hs;rw [hr] at hs;exact hs
   refine G.take1 j6 (vr,pv) ?_
   rw [B2]
   intro p e
   subst e
   refine gr ?_
   refine Fz (vp:=pv) (x:=r) (by have:=hs.1;omega) fun c=>?_
   refine gr ?_
   refine Ka ht (xs:=r.items) hs fun s hsl=>?_
   refine BN p pv r ?_
   rw [←hr]
   refine dL b x iv vf ve vc (ptr p 0) vb pv pq ?_
   exact(hK s (fun _ q g=>by rw [hr] at g;cases g;exact hsl)).sub
end
end Go.Proofs.YtoealglbimbbmaaGreatDoor.S
namespace Go.Proofs.YtoealglbimbbmaaGreatDoor.S
open Go Go.Proofs
set_option linter.unusedVariables false
set_option linter.unusedSimpArgs false
section
variable {w0:bg}{L M:List ax}{K:KV}{F:World→Prop}{C:ax→List ax}{b p pv pq:Nat}{x:ca}{v iv vf ve vc vr vb:Value}{i:tY}{c:Int}
theorem G.innDrop (h:i.isCom=false)(H:vc=.pointer none→G w0 M F):G w0 (ob gh (iv,vf,ve,vc) i::M) F:=by
 cases i with
 | none=>rw [wn];exact H
 | fetch f=>rw [ju];intro p e;exact(H e.2.2).sub
 | ext f=>rw [pB];intro p e;exact(H e.2.2).sub
 | com f=>cases h
theorem iM {e er by_:Int}[i:al L em b x C](hK:G w0 (C (ob em b (gD x e er by_))) (K (.tuple #[]))):G w0 L (CP Tryz.prog Xj [ptr b 0,i64 e,i64 er,i64 by_] K):=by
 refine i.use (fun M hK=>?_) hK
 refine vL ?_
 unfold lV
 rw [cv] at *
 intro iv vf ve vc vr vb pv pq
 have hK:=hK iv vf ve vc vr vb pv pq
 refine gr ?_
 exact hK
theorem zA (hc:x.inn.isCom=false)[i:al L em b x C](hK:G w0 (C (ob em b (AK x c))) (K (.tuple #[]))):G w0 L (CP Tryz.prog YR [ptr b 0,i64 c] K):=by
 refine i.use (fun M hK=>?_) hK
 refine vu ?_
 unfold ml
 rw [cv]
 intro iv vf ve vc vr vb pv pq
 refine G.take1 gh (iv,vf,ve,vc) ?_
 refine G.innDrop hc fun e=>?_
 subst e
 refine G.drew ?_
 refine gr ?_
 refine Es ?_
 refine gr ?_
 refine L6 fun p=>?_
 refine gr ?_
 refine gO ?_
 unfold fA
 refine gr ?_
 refine yf (p:=p) b (AK x c) ve vr vb pv pq rfl ?_
 exact hK
theorem uw {st:Int}(hc:x.inn.isCom=false)(hl:x.rd.length≤1000000)[i:al L em b x C](hK:G w0 (C (ob em b (sX x st))) (K (.tuple #[]))):G w0 L (CP Tryz.prog YS [ptr b 0,i64 st] K):=by
 refine i.use (fun M hK=>?_) hK
 refine sZ ?_
 unfold kN
 rw [cv]
 intro iv vf ve vc vr vb pv pq
 refine G.take1 gh (iv,vf,ve,vc) ?_
 refine G.innDrop hc fun e=>?_
 subst e
 refine G.drew ?_
 refine gr ?_
 refine lq (xs:=x.rd) hl fun u hu=>?_
 refine gr ?_
 refine JS (xs:=x.rd) hl fun p=>?_
 refine gr ?_
 refine gO ?_
 unfold fA
 refine gr ?_
 refine KQ (p:=p) b (sX x st) vf vr vb pv pq rfl ?_
 exact hK.sub
theorem KH (o1:∀r,x.run=some r→qa r x.v)(oB:x.blocks.length≤1000000∧x.given≤x.blocks.length)[i:al L em b x C](hK:∀ρ,dm ρ→G w0 (C (ob em b (gb ρ x).1)) (K (.tuple #[i64 (gb ρ x).2.1,i64 (gb ρ x).2.2]))) :
  G w0 L (CP Tryz.prog aaB [ptr b 0] K):=by
 refine i.useA (A':=fun z:{ ρ // dm ρ }=>ob em b (gb z.1 x).1) (F':=fun z=>K (.tuple #[i64 (gb z.1 x).2.1,i64 (gb z.1 x).2.2])) (fun M hK=>?_) (fun z=>hK z.1 z.2)
 have hK:∀ρ,dm ρ→G w0 (ob em b (gb ρ x).1::M) (K (.tuple #[i64 (gb ρ x).2.1,i64 (gb ρ x).2.2])):=fun ρ h=>hK ⟨ρ,h⟩
 refine wG ?_
 unfold oz
 rw [cv]
 intro iv vf ve vc vr vb pv pq
 cases hr:x.run with
 | some r =>
  refine G.take1 j6 (vr,pv) ?_
  rw [B2]
  intro pr e
  subst e
  repeat' (first | (with_reducible refine G.joini0 ?_) | (with_reducible refine G.joini1 ?_) | (with_reducible refine G.drew ?_) | (simp (maxSteps:=2000000) only [↓RG,RP,RB,BEq.rfl,Int.reduceEq,Int.reduceLT,Int.reduceLE,Nat.reduceEqDiff]))
  refine G.pickAll (As:=[ob dU (pr,pv) r,ob ba pv x.v]) ?_
  simp only [List.cons_append,List.nil_append]
  refine JH (o1 r hr) fun R hR=>?_
  obtain⟨ρ,hρ,eR⟩:=U6 (o1 r hr) hR
  have hK:=hK ρ hρ
  have e:gb ρ x=({ x with run:=some R.1,v:=R.2.1 },R.2.2,R.1.err):=by unfold gb;rw [hr];simp only;rw [eR]
  rw [e] at hK
  obtain⟨y,t,q⟩:=R
  simp only at hK ⊢
  refine gg ?_
  refine J0 (vp:=pv) (x:=y) ?_
  refine BN pr pv y ?_
  refine dL b { x with run:=some y,v:=t } iv vf ve vc (ptr pr 0) vb pv pq ?_
  refine gg ?_
  exact hK
 | none =>
  obtain⟨ρ,hρ⟩:=si
  have hK:=hK ρ hρ
  have e:gb ρ x=({ x with given:=(ja (x.blocks.drop x.given) x.given x.v).1,v:=(ja (x.blocks.drop x.given) x.given x.v).2.1 },(ja (x.blocks.drop x.given) x.given x.v).2.2.1,(ja (x.blocks.drop x.given) x.given x.v).2.2.2):=by unfold gb;rw [hr]
  rw [e] at hK
  refine G.take1 j6 (vr,pv) ?_
  rw [Cd]
  intro e
  subst e
  refine gg ?_
  generalize hR:ja (x.blocks.drop x.given) x.given x.v=R at hK
  refine G.loop0 (σ:=Nat×fh) (fun z=>own b (ca.cells { x with given:=z.1,v:=z.2 } iv vf ve vc (.pointer none) vb pv pq)::sl cd vb x.blocks::ob ba pv z.2::ob eU pq (16,x.rd)::ob gh (iv,vf,ve,vc) x.inn::M) (fun z=>z.1≤x.blocks.length∧ja (x.blocks.drop z.1) z.1 z.2=R) (fun z=>x.blocks.length-z.1) (x.given,x.v) rfl ⟨oB.2,hR⟩ ?_
  rintro⟨k,s⟩ ⟨hk,he⟩ J hJ
  simp only at hk he hJ ⊢
  have hend:∀{s':fh} {q e:Int},R=(k,s',q,e)→G w0 (own b (ca.cells { x with given:=k,v:=s' } iv vf ve vc (.pointer none) vb pv pq)::sl cd vb x.blocks::ob ba pv s'::ob eU pq (16,x.rd)::ob gh (iv,vf,ve,vc) x.inn::M) (K (.tuple #[i64 q,i64 e])):=fun {s' q e} h=>by
   rw [h] at hK
   refine E7 pv ?_
   rw [←hr]
   refine dL b { x with given:=k,v:=s' } iv vf ve vc (.pointer none) vb pv pq ?_
   exact hK
  by_cases c:k<x.blocks.length
  ·have e:=cW c
   rw [List.drop_eq_getElem_cons c,ja] at he
   have cl:((k:Int)<x.blocks.length):=by omega
   repeat' (first | (with_reducible refine G.joini0 ?_) | (with_reducible refine G.joini1 ?_) | (with_reducible refine G.drew ?_) | (simp (maxSteps:=2000000) only [↓RG,RP,RB,BEq.rfl,Int.reduceEq,Int.reduceLT,Int.reduceLE,Nat.reduceEqDiff,cl]))
   refine KD (s:=s) ?_
   generalize pp s x.blocks[k]=q at he
   obtain⟨s',q⟩:=q
   simp only at he ⊢
   by_cases c0:q=0
   ·rw [if_pos c0] at he
    refine gf (eq_true c0) ?_
    rw [dt (by omega)]
    exact(hJ (k+1,s') ⟨c,he⟩ (by simp only;omega)).sub
   ·rw [if_neg c0] at he
    by_cases c11:q=11
    ·rw [if_pos c11] at he
     refine gf (an c0 (eq_true c11)) ?_
     exact(hend he.symm).sub
    ·rw [if_neg c11] at he
     refine gf (an c0 c11) ?_
     exact(hend he.symm).sub
  ·have cl:¬((k:Int)<x.blocks.length):=by omega
   rw [List.drop_eq_nil_of_le (by omega),ja] at he
   repeat' (first | (with_reducible refine G.joini0 ?_) | (with_reducible refine G.joini1 ?_) | (with_reducible refine G.drew ?_) | (simp (maxSteps:=2000000) only [↓RG,RP,RB,BEq.rfl,Int.reduceEq,Int.reduceLT,Int.reduceLE,Nat.reduceEqDiff,cl]))
   exact(hend he.symm).sub
theorem xQ (ho:Gx x)[i:al L em b x C](hK:∀ρ,dm ρ→G w0 (C (ob em b (jr ρ x))) (K (.tuple #[]))) :
  G w0 L (CP Tryz.prog YT [ptr b 0] K):=by
 refine i.useA (A':=fun z:{ ρ // dm ρ }=>ob em b (jr z.1 x)) (F':=fun _=>K (.tuple #[])) (fun M hK=>?_) (fun z=>hK z.1 z.2)
 have hK:∀ρ,dm ρ→G w0 (ob em b (jr ρ x)::M) (K (.tuple #[])):=fun ρ h=>hK ⟨ρ,h⟩
 refine tw ?_
 unfold lC
 obtain⟨o1,oB,o2,o3⟩:=ho
 refine KH (x:=x) o1 oB fun ρ hρ=>?_
 have hK:=hK ρ hρ
 unfold jr at hK
 have o2:(gb ρ x).1.inn.isCom=false:=by unfold gb;split <;> exact o2
 have o3:(gb ρ x).1.rd.length≤1000:=by unfold gb;split <;> exact o3
 generalize gb ρ x=R at hK o2 o3
 obtain⟨y,q,e⟩:=R
 unfold Ht at hK
 simp only at hK o2 o3 ⊢
 rw [cv]
 intro iv vf ve vc vr vb pv pq
 refine G.okV (b:=pv) (s:=y.v) fun _ hl=>?_
 have o4:=Fk hl
 by_cases c1:q=1
 ·rw [if_pos c1] at hK
  repeat' (first | (with_reducible refine G.joini0 ?_) | (with_reducible refine G.joini1 ?_) | (with_reducible refine G.drew ?_) | (simp (maxSteps:=2000000) only [↓RG,RP,RB,BEq.rfl,Int.reduceEq,Int.reduceLT,Int.reduceLE,Nat.reduceEqDiff,eq_true c1]))
  refine rn (s:=y.v) ?_
  refine dL b y iv vf ve vc vr vb pv pq ?_
  refine zA (x:=y) o2 ?_
  repeat' (first | (with_reducible refine G.joini0 ?_) | (with_reducible refine G.joini1 ?_) | (with_reducible refine G.drew ?_) | (simp (maxSteps:=2000000) only [↓RG,RP,RB,BEq.rfl,Int.reduceEq,Int.reduceLT,Int.reduceLE,Nat.reduceEqDiff]))
  exact hK
 rw [if_neg c1] at hK
 by_cases c3:q=3
 ·rw [if_pos c3] at hK
  repeat' (first | (with_reducible refine G.joini0 ?_) | (with_reducible refine G.joini1 ?_) | (with_reducible refine G.drew ?_) | (simp (maxSteps:=2000000) only [↓RG,RP,RB,BEq.rfl,Int.reduceEq,Int.reduceLT,Int.reduceLE,Nat.reduceEqDiff,c1,eq_true c3]))
  refine dL b { y with blocking:=true } iv vf ve vc vr vb pv pq ?_
  refine uw (x:={ y with blocking:=true }) o2 (by simp only;omega) ?_
  repeat' (first | (with_reducible refine G.joini0 ?_) | (with_reducible refine G.joini1 ?_) | (with_reducible refine G.drew ?_) | (simp (maxSteps:=2000000) only [↓RG,RP,RB,BEq.rfl,Int.reduceEq,Int.reduceLT,Int.reduceLE,Nat.reduceEqDiff]))
  exact hK
 rw [if_neg c3] at hK
 by_cases c4:q=4
 ·rw [if_pos c4] at hK
  refine gf (an c1 (an c3 (eq_true c4))) ?_
  refine dL b y iv vf ve vc vr vb pv pq ?_
  refine iM (x:=y) ?_
  repeat' (first | (with_reducible refine G.joini0 ?_) | (with_reducible refine G.joini1 ?_) | (with_reducible refine G.drew ?_) | (simp (maxSteps:=2000000) only [↓RG,RP,RB,BEq.rfl,Int.reduceEq,Int.reduceLT,Int.reduceLE,Nat.reduceEqDiff]))
  exact hK
 rw [if_neg c4] at hK
 repeat' (first | (with_reducible refine G.joini0 ?_) | (with_reducible refine G.joini1 ?_) | (with_reducible refine G.drew ?_) | (simp (maxSteps:=2000000) only [↓RG,RP,RB,BEq.rfl,Int.reduceEq,Int.reduceLT,Int.reduceLE,Nat.reduceEqDiff,c1,c3,c4]))
 refine pF (s:=y.v) fun u hu=>?_
 by_cases cz:y.v.l.cells=[]
 ·rw [if_pos cz] at hK
  rw [cz]
  repeat' (first | (with_reducible refine G.joini0 ?_) | (with_reducible refine G.joini1 ?_) | (with_reducible refine G.drew ?_) | (simp (maxSteps:=2000000) only [↓RG,RP,RB,BEq.rfl,Int.reduceEq,Int.reduceLT,Int.reduceLE,Nat.reduceEqDiff,List.length_nil,Int.cast_ofNat_Int]))
  refine dL b y iv vf ve vc vr vb pv pq ?_
  refine iM (x:=y) ?_
  repeat' (first | (with_reducible refine G.joini0 ?_) | (with_reducible refine G.joini1 ?_) | (with_reducible refine G.drew ?_) | (simp (maxSteps:=2000000) only [↓RG,RP,RB,BEq.rfl,Int.reduceEq,Int.reduceLT,Int.reduceLE,Nat.reduceEqDiff]))
  exact hK.sub
 ·rw [if_neg cz] at hK
  have cl:¬((y.v.l.cells.length:Nat):Int)=0:=by
   intro g
   exact cz (List.length_eq_zero_iff.1 (by omega))
  refine G.take1 gh (iv,vf,ve,vc) ?_
  refine G.innDrop o2 fun e=>?_
  subst e
  repeat' (first | (with_reducible refine G.joini0 ?_) | (with_reducible refine G.joini1 ?_) | (with_reducible refine G.drew ?_) | (simp (maxSteps:=2000000) only [↓RG,RP,RB,BEq.rfl,Int.reduceEq,Int.reduceLT,Int.reduceLE,Nat.reduceEqDiff,cl]))
  refine lq (xs:=y.rd) (by omega) fun u2 hu2=>?_
  refine gg ?_
  refine JQ (seen:=y.rd) (cells:=y.v.l.cells) (by omega) (by omega) fun p=>?_
  refine gg ?_
  refine gO ?_
  unfold fA
  refine gg ?_
  refine K8 (p:=p) b { y with inn:=.com (mW y.me y.s.spins y.stamp y.rd y.v.l.cells (fm (dr y.v.l.cells y.s.stripes y.s.wide) 16)),state:=6 } vf ve vr vb pv pq rfl ?_
  exact hK.sub
theorem Cg {f:ft}(hx:x.inn=.fetch f)(ho:M4 x f)[i:al L em b x C]
  (hK:∀ρ,dm ρ→G w0 (C (ob em b (ev ρ x f))) (K (.tuple #[]))):G w0 L (CP Tryz.prog aaC [ptr b 0] K):=by
 refine i.useA (A':=fun z:{ ρ // dm ρ }=>ob em b (ev z.1 x f)) (F':=fun _=>K (.tuple #[])) (fun M hK=>?_) (fun z=>hK z.1 z.2)
 have hK:∀ρ,dm ρ→G w0 (ob em b (ev ρ x f)::M) (K (.tuple #[])):=fun ρ h=>hK ⟨ρ,h⟩
 refine qZ ?_
 unfold jA
 obtain⟨o1,o2,o3,o4⟩:=ho
 rw [cv]
 intro iv vf ve vc vr vb pv pq
 refine G.take1 gh (iv,vf,ve,vc) ?_
 rw [hx,ju]
 rintro p ⟨e1,e2,e3⟩
 subst e1 e2 e3
 refine gr ?_
 refine i6 (f:=f) ?_
 obtain⟨ρ0,hρ0⟩:=si
 rcases o1 with h6 | hf2
 ·have hK:=hK ρ0 hρ0
  unfold ev at hK
  rw [if_pos h6] at hK
  refine dN h6 ?_
  refine yf (p:=p) b x ve vr vb pv pq hx ?_
  refine uw (x:=x) (by rw [hx]) (by omega) ?_
  refine gr ?_
  exact hK
 ·have n6:¬f.pat.fin=6:=by omega
  have o4:=o4 hf2
  repeat' (first | (with_reducible refine G.joini0 ?_) | (with_reducible refine G.joini1 ?_) | (with_reducible refine G.drew ?_) | (simp (maxSteps:=2000000) only [↓RG,RP,RB,BEq.rfl,Int.reduceEq,Int.reduceLT,Int.reduceLE,Nat.reduceEqDiff,hf2]))
  refine Ae (f:=f) ?_
  rw [if_pos hf2]
  refine gg ?_
  refine Co (m:=16) (xs:=x.rd) (x:=⟨f.stripe,f.lock.version⟩) o2 ?_
  by_cases c0:mF 16 x.rd ⟨f.stripe,f.lock.version⟩=0
  ·rw [c0]
   repeat' (first | (with_reducible refine G.joini0 ?_) | (with_reducible refine G.joini1 ?_) | (with_reducible refine G.drew ?_) | (simp (maxSteps:=2000000) only [↓RG,RP,RB,BEq.rfl,Int.reduceEq,Int.reduceLT,Int.reduceLE,Nat.reduceEqDiff]))
   refine rn (s:=x.v) ?_
   refine gg ?_
   refine Aa (f:=f) ?_
   rw [if_pos hf2]
   refine gg ?_
   refine xz (s:=x.v) (by omega) ?_
   refine gg ?_
   refine yf (p:=p) (f:=f) b (py x f) ve vr vb pv pq hx ?_
   refine xQ (x:=py x f) (o4 c0) fun ρ hρ=>?_
   have hK:=hK ρ hρ
   unfold ev at hK
   rw [if_neg n6,if_pos c0] at hK
   repeat' (first | (with_reducible refine G.joini0 ?_) | (with_reducible refine G.joini1 ?_) | (with_reducible refine G.drew ?_) | (simp (maxSteps:=2000000) only [↓RG,RP,RB,BEq.rfl,Int.reduceEq,Int.reduceLT,Int.reduceLE,Nat.reduceEqDiff]))
   exact hK
  ·have hK:=hK ρ0 hρ0
   unfold ev at hK
   rw [if_neg n6,if_neg c0] at hK
   have hout:∀e er J,G w0 (ob em b (gD (kh x f) e er (-1))::M) J→G w0 (ob eU pq (16,ng 16 x.rd ⟨f.stripe,f.lock.version⟩)::ob jh p f::own b (x.cells (.iface 215 (ptr p 0)) (ptr p 0) ve (.pointer none) vr vb pv pq)::ob j6 (vr,pv) x.run::sl cd vb x.blocks::ob ba pv x.v::M) (CP Tryz.prog Xj [ptr b 0,i64 e,i64 er,i64 (-1)] (fun _=>J)):=fun e er J hJ=>by
    refine yf (p:=p) (f:=f) b (kh x f) ve vr vb pv pq hx ?_
    exact iM (x:=kh x f) hJ
   by_cases c14:mF 16 x.rd ⟨f.stripe,f.lock.version⟩=14
   ·rw [if_pos c14] at hK
    rw [c14]
    refine gg ?_
    exact(hout 5 0 _ hK).sub
   ·rw [if_neg c14] at hK
    refine gf (an c0 c14) ?_
    exact(hout 4 _ _ hK).sub
theorem EL (ho:NR x)(h0:x.inn.fin≠0)(h5:x.inn.fin≠5)[i:al L em b x C](hK:∀ρ,dm ρ→G w0 (C (ob em b (iI ρ x))) (K (.tuple #[]))):G w0 L (CP Tryz.prog aaD [ptr b 0] K):=by
 refine i.useA (A':=fun z:{ ρ // dm ρ }=>ob em b (iI z.1 x)) (F':=fun _=>K (.tuple #[])) (fun M hK=>?_) (fun z=>hK z.1 z.2)
 have hK:∀ρ,dm ρ→G w0 (ob em b (iI ρ x)::M) (K (.tuple #[])):=fun ρ h=>hK ⟨ρ,h⟩
 refine sW ?_
 unfold kz
 cases hx:x.inn with
 | none=>have:=ho.ok;rw [hx] at this;exact this.elim
 | fetch f =>
  obtain⟨s3,hr⟩:=ho.fetch f hx
  rw [hx] at h0 h5
  have h0:f.pat.fin≠0:=h0
  have h5:f.pat.fin≠5:=h5
  have hr:M4 x f:=by
   rcases hr with g | g | g
   ·exact absurd g h0
   ·exact absurd g h5
   ·exact g
  simp only [iI,hx] at hK
  rw [cv]
  intro iv vf ve vc vr vb pv pq
  refine gf (eq_true s3) ?_
  refine dL b x iv vf ve vc vr vb pv pq ?_
  refine Cg (x:=x) (f:=f) hx hr fun ρ hρ=>?_
  repeat' (first | (with_reducible refine G.joini0 ?_) | (with_reducible refine G.joini1 ?_) | (with_reducible refine G.drew ?_) | (simp (maxSteps:=2000000) only [↓RG,RP,RB,BEq.rfl,Int.reduceEq,Int.reduceLT,Int.reduceLE,Nat.reduceEqDiff]))
  exact hK ρ hρ
 | ext e =>
  obtain⟨s4,hf⟩:=ho.ext e hx
  rw [hx] at h0 h5
  have h0:e.pat.fin≠0:=h0
  have h5:e.pat.fin≠5:=h5
  have hf2:e.pat.fin=2:=by omega
  obtain⟨ρ0,hρ0⟩:=si
  have hK:=hK ρ0 hρ0
  simp only [iI,hx] at hK
  rw [cv]
  intro iv vf ve vc vr vb pv pq
  refine G.take1 gh (iv,vf,ve,vc) ?_
  rw [hx,pB]
  rintro p ⟨e1,e2,e3⟩
  subst e1 e2 e3
  have n3:x.state≠3:=by omega
  by_cases c4:x.state=4
  ·rw [if_pos c4] at hK
   repeat' (first | (with_reducible refine G.joini0 ?_) | (with_reducible refine G.joini1 ?_) | (with_reducible refine G.drew ?_) | (simp (maxSteps:=2000000) only [↓RG,RP,RB,BEq.rfl,Int.reduceEq,Int.reduceLT,Int.reduceLE,Nat.reduceEqDiff,n3,eq_true c4]))
   refine mA (x:=e) ?_
   rw [if_pos hf2]
   refine gg ?_
   refine rn (s:=x.v) ?_
   refine KQ (p:=p) (f:=e) b { x with stamp:=e.stamp } vf vr vb pv pq hx ?_
   refine zA (x:={ x with stamp:=e.stamp }) (c:=x.v.need) (by show x.inn.isCom=false;rw [hx]) ?_
   repeat' (first | (with_reducible refine G.joini0 ?_) | (with_reducible refine G.joini1 ?_) | (with_reducible refine G.drew ?_) | (simp (maxSteps:=2000000) only [↓RG,RP,RB,BEq.rfl,Int.reduceEq,Int.reduceLT,Int.reduceLE,Nat.reduceEqDiff]))
   exact hK
  ·rw [if_neg c4] at hK
   have c5:x.state=5:=by omega
   repeat' (first | (with_reducible refine G.joini0 ?_) | (with_reducible refine G.joini1 ?_) | (with_reducible refine G.drew ?_) | (simp (maxSteps:=2000000) only [↓RG,RP,RB,BEq.rfl,Int.reduceEq,Int.reduceLT,Int.reduceLE,Nat.reduceEqDiff,n3,c4,eq_true c5]))
   refine mA (x:=e) ?_
   rw [if_pos hf2]
   refine gg ?_
   refine KQ (p:=p) (f:=e) b { x with stamp:=e.stamp } vf vr vb pv pq hx ?_
   refine iM (x:={ x with stamp:=e.stamp }) ?_
   repeat' (first | (with_reducible refine G.joini0 ?_) | (with_reducible refine G.joini1 ?_) | (with_reducible refine G.drew ?_) | (simp (maxSteps:=2000000) only [↓RG,RP,RB,BEq.rfl,Int.reduceEq,Int.reduceLT,Int.reduceLE,Nat.reduceEqDiff]))
   rw [←hx] at hK
   exact hK
 | com m =>
  have s6:=ho.com m hx
  obtain⟨ρ0,hρ0⟩:=si
  have hK:=hK ρ0 hρ0
  simp only [iI,hx] at hK
  rw [cv]
  intro iv vf ve vc vr vb pv pq
  refine G.take1 gh (iv,vf,ve,vc) ?_
  rw [hx,pH]
  rintro p ⟨e1,e3⟩
  subst e1 e3
  have n3:x.state≠3:=by omega
  have n4:x.state≠4:=by omega
  have n5:x.state≠5:=by omega
  repeat' (first | (with_reducible refine G.joini0 ?_) | (with_reducible refine G.joini1 ?_) | (with_reducible refine G.drew ?_) | (simp (maxSteps:=2000000) only [↓RG,RP,RB,BEq.rfl,Int.reduceEq,Int.reduceLT,Int.reduceLE,Nat.reduceEqDiff,n3,n4,n5,eq_true s6]))
  refine jK (x:=m) ?_
  refine gg ?_
  refine yD (x:=m) ?_
  refine gg ?_
  refine K8 (p:=p) (f:=m) b x vf ve vr vb pv pq hx ?_
  refine iM (x:=x) ?_
  refine gg ?_
  exact hK
theorem pZ (hK:G w0 (ob em b (jv x)::M) (K (.tuple #[]))):G w0 (ob em b x::M) (CP Tryz.prog XI [ptr b 0] (fun x6=>ae x6 (ah (ptr b 0) (fun x7=>ad 18 x7 (fun x8=>aa x8 (fun x9=>CP Tryz.prog YU [x9] (fun x10=>ah (ptr b 0) (fun x11=>ad 21 x11 (fun x12=>ag 1 x12 x10 (fun _=>K (.tuple #[]))))))))) (K (.tuple #[])))):=by
 refine ly (x:=x) ?_
 unfold jv at hK
 cases hw:x.wr
 ·rw [if_neg (by rw [hw];decide)] at hK
  refine gr ?_
  exact hK
 ·rw [if_pos hw] at hK
  have hi:x.inn.wr=true:=by
   unfold ca.wr at hw
   simp only [Bool.and_eq_true] at hw
   exact hw.2
  cases hx:x.inn with
  | none=>rw [hx] at hi;cases hi
  | fetch f=>rw [hx] at hi;cases hi
  | ext f=>rw [hx] at hi;cases hi
  | com m =>
   simp only [hx] at hK
   rw [cv]
   intro iv vf ve vc vr vb pv pq
   refine G.take1 gh (iv,vf,ve,vc) ?_
   rw [hx,pH]
   rintro p ⟨e1,e3⟩
   subst e1 e3
   refine gr ?_
   refine vd (x:=m) ?_
   refine gr ?_
   refine K8 (p:=p) (f:=m) b { x with stamp:=tY.stamp (.com m) } vf ve vr vb pv pq hx ?_
   have e:({ x with stamp:=tY.stamp (.com m) }:ca)={ me:=x.me,s:=x.s,run:=x.run,blocks:=x.blocks,given:=x.given,v:=x.v,rd:=x.rd,state:=x.state,inn:=.com m,begun:=x.begun,beg:=x.beg,stamp:=tY.stamp (.com m),fin:=x.fin,by_:=x.by_,err:=x.err,blocking:=x.blocking }:=by rw [hx]
   rw [e]
   exact hK
theorem FN (ho:NR x)[i:al L em b x C](hK:∀ρ,dm ρ→G w0 (C (ob em b (eJ ρ x))) (K (.tuple #[]))):G w0 L (CP Tryz.prog aaE [ptr b 0] K):=by
 refine i.useA (A':=fun z:{ ρ // dm ρ }=>ob em b (eJ z.1 x)) (F':=fun _=>K (.tuple #[])) (fun M hK=>?_) (fun z=>hK z.1 z.2)
 have hK:∀ρ,dm ρ→G w0 (ob em b (eJ ρ x)::M) (K (.tuple #[])):=fun ρ h=>hK ⟨ρ,h⟩
 refine tV ?_
 unfold lg
 rw [cv]
 intro iv vf ve vc vr vb pv pq
 refine gg ?_
 refine G.take1 gh (iv,vf,ve,vc) ?_
 refine Tf ho.ok ?_
 obtain⟨ρ0,hρ0⟩:=si
 by_cases h0:x.inn.fin=0
 ·have hK:=hK ρ0 hρ0
  unfold eJ at hK
  rw [if_pos h0] at hK
  refine gf h0 ?_
  refine dL b x iv vf ve vc vr vb pv pq ?_
  refine pZ (x:=x) ?_
  exact hK
 ·by_cases h5:x.inn.fin=5
  ·have hK:=hK ρ0 hρ0
   unfold eJ at hK
   rw [if_neg h0,if_pos h5] at hK
   repeat' (first | (with_reducible refine G.joini0 ?_) | (with_reducible refine G.joini1 ?_) | (with_reducible refine G.drew ?_) | (simp (maxSteps:=2000000) only [↓RG,RP,RB,BEq.rfl,Int.reduceEq,Int.reduceLT,Int.reduceLE,Nat.reduceEqDiff,h0,h5]))
   refine VB ho.ok ?_
   repeat' (first | (with_reducible refine G.joini0 ?_) | (with_reducible refine G.joini1 ?_) | (with_reducible refine G.drew ?_) | (simp (maxSteps:=2000000) only [↓RG,RP,RB,BEq.rfl,Int.reduceEq,Int.reduceLT,Int.reduceLE,Nat.reduceEqDiff]))
   refine dL b x iv vf ve vc vr vb pv pq ?_
   refine iM (x:=x) ?_
   repeat' (first | (with_reducible refine G.joini0 ?_) | (with_reducible refine G.joini1 ?_) | (with_reducible refine G.drew ?_) | (simp (maxSteps:=2000000) only [↓RG,RP,RB,BEq.rfl,Int.reduceEq,Int.reduceLT,Int.reduceLE,Nat.reduceEqDiff]))
   refine pZ (x:=gD x 5 0 x.inn.by_) ?_
   exact hK
  ·refine gf (an h0 h5) ?_
   refine dL b x iv vf ve vc vr vb pv pq ?_
   refine EL (x:=x) ho h0 h5 fun ρ hρ=>?_
   have hK:=hK ρ hρ
   unfold eJ at hK
   rw [if_neg h0,if_neg h5] at hK
   repeat' (first | (with_reducible refine G.joini0 ?_) | (with_reducible refine G.joini1 ?_) | (with_reducible refine G.drew ?_) | (simp (maxSteps:=2000000) only [↓RG,RP,RB,BEq.rfl,Int.reduceEq,Int.reduceLT,Int.reduceLE,Nat.reduceEqDiff]))
   refine pZ (x:=iI ρ x) ?_
   exact hK
theorem GF {a:fi}(ho:mQ x a)[i:al L em b x C](hK:∀ρ,dm ρ→G w0 (C (ob em b (bk ρ x a))) (K (.tuple #[]))):G w0 L (CP Tryz.prog aaF [ptr b 0,.agg (fi.cells a).toArray] K):=by
 refine i.useA (A':=fun z:{ ρ // dm ρ }=>ob em b (bk z.1 x a)) (F':=fun _=>K (.tuple #[])) (fun M hK=>?_) (fun z=>hK z.1 z.2)
 have hK:∀ρ,dm ρ→G w0 (ob em b (bk ρ x a)::M) (K (.tuple #[])):=fun ρ h=>hK ⟨ρ,h⟩
 refine ud ?_
 unfold kZ
 refine G.box fun q=>?_
 rw [eN,cv]
 intro iv vf ve vc vr vb pv pq
 have he:=ho.err
 obtain⟨ρ0,hρ0⟩:=si
 have hK0:=hK ρ0 hρ0
 unfold bk at hK0
 by_cases s8:x.state=8
 ·rw [if_pos s8,cv] at hK0
  refine gf (eq_true s8) ?_
  exact(hK0 iv vf ve vc vr vb pv pq).sub
 rw [if_neg s8] at hK0
 by_cases s0:x.state=0
 ·rw [if_pos s0,cv] at hK0
  repeat' (first | (with_reducible refine G.joini0 ?_) | (with_reducible refine G.joini1 ?_) | (with_reducible refine G.drew ?_) | (simp (maxSteps:=2000000) only [↓RG,RP,RB,BEq.rfl,Int.reduceEq,Int.reduceLT,Int.reduceLE,Nat.reduceEqDiff,s8,eq_true s0,eq_true he]))
  exact(hK0 iv vf ve vc vr vb pv pq).sub
 rw [if_neg s0] at hK0
 by_cases s1:x.state=1
 ·rw [if_pos s1,cv] at hK0
  repeat' (first | (with_reducible refine G.joini0 ?_) | (with_reducible refine G.joini1 ?_) | (with_reducible refine G.drew ?_) | (simp (maxSteps:=2000000) only [↓RG,RP,RB,BEq.rfl,Int.reduceEq,Int.reduceLT,Int.reduceLE,Nat.reduceEqDiff,s8,s0,eq_true s1,eq_true he]))
  exact(hK0 iv vf ve vc vr vb pv pq).sub
 rw [if_neg s1] at hK0
 by_cases s2:x.state=2
 ·have g1:=ho.work s2
  refine gf (an s8 (an s0 (an s1 (an (eq_true s2) (eq_true he))))) ?_
  refine dL b x iv vf ve vc vr vb pv pq ?_
  refine xQ (x:=x) g1 fun ρ hρ=>?_
  have hK:=hK ρ hρ
  unfold bk at hK
  rw [if_neg s8,if_neg s0,if_neg s1,if_pos s2] at hK
  repeat' (first | (with_reducible refine G.joini0 ?_) | (with_reducible refine G.joini1 ?_) | (with_reducible refine G.drew ?_) | (simp (maxSteps:=2000000) only [↓RG,RP,RB,BEq.rfl,Int.reduceEq,Int.reduceLT,Int.reduceLE,Nat.reduceEqDiff]))
  exact hK.sub
 rw [if_neg s2] at hK0
 by_cases s7:x.state=7
 ·rw [if_pos s7,cv] at hK0
  repeat' (first | (with_reducible refine G.joini0 ?_) | (with_reducible refine G.joini1 ?_) | (with_reducible refine G.drew ?_) | (simp (maxSteps:=2000000) only [↓RG,RP,RB,BEq.rfl,Int.reduceEq,Int.reduceLT,Int.reduceLE,Nat.reduceEqDiff,s8,s0,s1,s2,eq_true s7,eq_true he]))
  exact(hK0 iv vf ve vc vr vb pv pq).sub
 rw [if_neg s7] at hK0
 obtain⟨g1,g2⟩:=ho.inn s0 s1 s2 s7 s8
 repeat' (first | (with_reducible refine G.joini0 ?_) | (with_reducible refine G.joini1 ?_) | (with_reducible refine G.drew ?_) | (simp (maxSteps:=2000000) only [↓RG,RP,RB,BEq.rfl,Int.reduceEq,Int.reduceLT,Int.reduceLE,Nat.reduceEqDiff,s8,s0,s1,s2,s7,eq_true he]))
 refine G.take1 gh (iv,vf,ve,vc) ?_
 refine Rr g1 ?_
 refine gg ?_
 refine dL b { x with inn:=x.inn.tell a } iv vf ve vc vr vb pv pq ?_
 refine FN (x:={ x with inn:=x.inn.tell a }) g2 fun ρ hρ=>?_
 have hK:=hK ρ hρ
 unfold bk at hK
 rw [if_neg s8,if_neg s0,if_neg s1,if_neg s2,if_neg s7] at hK
 repeat' (first | (with_reducible refine G.joini0 ?_) | (with_reducible refine G.joini1 ?_) | (with_reducible refine G.drew ?_) | (simp (maxSteps:=2000000) only [↓RG,RP,RB,BEq.rfl,Int.reduceEq,Int.reduceLT,Int.reduceLE,Nat.reduceEqDiff]))
 exact hK.sub
theorem FZ (ho:x.state≠0→x.state≠1→x.state≠2→x.state≠7→x.state≠8→x.inn.ok)[i:al L em b x C](hK:G w0 L (K (.tuple #[.agg (rv.cells (cX x).1).toArray,.bool (cX x).2]))):G w0 L (CP Tryz.prog aaG [ptr b 0] K):=by
 refine i.ro (fun M hK=>?_) hK
 refine uk ?_
 unfold lB
 refine G.new fun q=>?_
 rw [eN]
 rw [cv] at *
 intro iv vf ve vc vr vb pv pq
 have hK:=hK iv vf ve vc vr vb pv pq
 unfold cX at hK
 by_cases s0:x.state=0
 ·rw [if_pos s0] at hK
  refine gf (eq_true s0) ?_
  exact hK.sub
 rw [if_neg s0] at hK
 by_cases s1:x.state=1
 ·rw [if_pos s1] at hK
  refine gf (an s0 (eq_true s1)) ?_
  exact hK.sub
 rw [if_neg s1] at hK
 by_cases s2:x.state=2
 ·rw [if_pos s2] at hK
  repeat' (first | (with_reducible refine G.joini0 ?_) | (with_reducible refine G.joini1 ?_) | (with_reducible refine G.drew ?_) | (simp (maxSteps:=2000000) only [↓RG,RP,RB,BEq.rfl,Int.reduceEq,Int.reduceLT,Int.reduceLE,Nat.reduceEqDiff,s0,s1,eq_true s2]))
  exact hK.sub
 rw [if_neg s2] at hK
 by_cases s7:x.state=7
 ·rw [if_pos s7] at hK
  refine gf (an s0 (an s1 (an s2 (eq_true s7)))) ?_
  exact hK.sub
 rw [if_neg s7] at hK
 by_cases s8:x.state=8
 ·rw [if_pos s8] at hK
  refine gf (an s0 (an s1 (an s2 (an s7 (eq_true s8))))) ?_
  exact hK.sub
 rw [if_neg s8] at hK
 refine gf (an s0 (an s1 (an s2 (an s7 s8)))) ?_
 refine G.take1 gh (iv,vf,ve,vc) ?_
 refine Rf (ho s0 s1 s2 s7 s8) ?_
 refine gg ?_
 exact hK.sub
end
end Go.Proofs.YtoealglbimbbmaaGreatDoor.S
