import Derived.Test.YtoealglbimbbmaaGreatDoorOPr
namespace Go.Proofs.YtoealglbimbbmaaGreatDoor.S
open Go Go.Proofs
set_option linter.unusedVariables false
set_option linter.unusedSimpArgs false
def gK (k:Value×Value×Value×Value):tt→ay
 | .none=>ic (k.2.2.2=.pointer none)
 | .fetch f=>m3 fun p=>bk (ic (k.1=.iface 215 (ptr p 0)∧k.2.1=ptr p 0∧k.2.2.2=.pointer none)) (ob jB p f)
 | .ext x=>m3 fun p=>bk (ic (k.1=.iface 216 (ptr p 0)∧k.2.2.1=ptr p 0∧k.2.2.2=.pointer none)) (ob zW p x)
 | .com x=>m3 fun p=>bk (ic (k.1=.iface 217 (ptr p 0)∧k.2.2.2=ptr p 0)) (ob iF p x)
abbrev bq.cells (x:bq)(iv vf ve vc:Value)(vr vb:Value)(pv pq:Nat):List Value:=[i64 x.me,i64 x.s.words,i64 x.s.stripes,i64 x.s.wide,i64 x.s.threads,u64 x.s.start,i64 x.s.spins,i64 x.s.writes,i64 x.s.fuel,vr,vb,i64 x.given,ptr pv 0,ptr pq 0,i64 x.state,iv,vf,ve,vc,.bool x.begun,u64 x.beg,u64 x.stamp,i64 x.fin,i64 x.by_,i64 x.err,.bool x.blocking]
def kz (k:Value×Nat):Option fm→ay
 | none=>ic (k.1=.pointer none)
 | some r=>m3 fun p=>bk (ic (k.1=ptr p 0)) (ob eM (p,k.2) r)
def fH (b:Nat)(x:bq):ay:=m3 fun iv=>m3 fun vf=>m3 fun ve=>m3 fun vc=>m3 fun vr=>m3 fun vb=>m3 fun pv=>m3 fun pq=>bk (bk (bk (bk (bk (own b (x.cells iv vf ve vc vr vb pv pq)) (ob kz (vr,pv) x.run)) (sl bg vb x.blocks)) (ob br pv x.v)) (ob fv pq (16,x.rd))) (ob gK (iv,vf,ve,vc) x.inn)
section
variable {w0:bh}{L M:List ay}{K:KV}{F:World→Prop}{C:ay→List ay}{b pv pq:Nat}{x:bq}{v iv vf ve vc vr vb:Value}
theorem cd:G w0 (ob fH b x::M) F=∀iv vf ve vc vr vb pv pq,G w0 (own b (x.cells iv vf ve vc vr vb pv pq)::ob kz (vr,pv) x.run::sl bg vb x.blocks::ob br pv x.v::ob fv pq (16,x.rd)::ob gK (iv,vf,ve,vc) x.inn::M) F:=by
 rw [eZ,fH]
 simp only [qr,fb]
theorem eF (b:Nat)(x:bq)(iv vf ve vc:Value)(vr vb:Value)(pv pq:Nat) [ez [own b (x.cells iv vf ve vc vr vb pv pq),ob kz (vr,pv) x.run,sl bg vb x.blocks,ob br pv x.v,ob fv pq (16,x.rd),ob gK (iv,vf,ve,vc) x.inn] L M](H:G w0 (ob fH b x::M) F):G w0 L F :=
 G.pickAll (As:=[own b (x.cells iv vf ve vc vr vb pv pq),ob kz (vr,pv) x.run,sl bg vb x.blocks,ob br pv x.v,ob fv pq (16,x.rd),ob gK (iv,vf,ve,vc) x.inn]) (by rw [cd] at H;exact H iv vf ve vc vr vb pv pq)
theorem AE:G w0 (ob kz (vr,pv) none::M) F=(vr=.pointer none→G w0 M F):=by rw [eZ,kz];simp only [fU]
theorem Bb {r:fm}:G w0 (ob kz (vr,pv) (some r)::M) F=∀p,vr=ptr p 0→G w0 (ob eM (p,pv) r::M) F:=by rw [eZ,kz];simp only [qr,fb,fU]
theorem A0 (p pv:Nat)(r:fm) [ez [ob eM (p,pv) r] L M](H:G w0 (ob kz (ptr p 0,pv) (some r)::M) F):G w0 L F :=
 G.pickAll (As:=[ob eM (p,pv) r]) (by rw [Bb] at H;exact H p rfl)
theorem DY (pv:Nat)(H:G w0 (ob kz (.pointer none,pv) none::M) F):G w0 M F:=by rw [AE] at H;exact H rfl
theorem v9:G w0 (ob gK (iv,vf,ve,vc) .none::M) F=(vc=.pointer none→G w0 M F):=by
 rw [eZ,gK];simp only [fU]
theorem jJ {f:fQ}:G w0 (ob gK (iv,vf,ve,vc) (.fetch f)::M) F=∀p,(iv=.iface 215 (ptr p 0)∧vf=ptr p 0∧vc=.pointer none)→G w0 (ob jB p f::M) F:=by
 rw [eZ,gK];simp only [qr,fb,fU]
theorem pO {f:vq}:G w0 (ob gK (iv,vf,ve,vc) (.ext f)::M) F=∀p,(iv=.iface 216 (ptr p 0)∧ve=ptr p 0∧vc=.pointer none)→G w0 (ob zW p f::M) F:=by
 rw [eZ,gK];simp only [qr,fb,fU]
theorem pZ {f:eK}:G w0 (ob gK (iv,vf,ve,vc) (.com f)::M) F=∀p,(iv=.iface 217 (ptr p 0)∧vc=ptr p 0)→G w0 (ob iF p f::M) F:=by
 rw [eZ,gK];simp only [qr,fb,fU]
theorem xQ {p:Nat}{f:fQ}(b:Nat)(x:bq)(ve:Value)(vr vb:Value)(pv pq:Nat)(hx:x.inn=.fetch f)
  [ez [own b (x.cells (.iface 215 (ptr p 0)) (ptr p 0) ve (.pointer none) vr vb pv pq),ob kz (vr,pv) x.run,sl bg vb x.blocks,ob br pv x.v,ob fv pq (16,x.rd),ob jB p f] L M] (H:G w0 (ob fH b x::M) F):G w0 L F :=
 G.pickAll (As:=[own b (x.cells (.iface 215 (ptr p 0)) (ptr p 0) ve (.pointer none) vr vb pv pq),ob kz (vr,pv) x.run,sl bg vb x.blocks,ob br pv x.v,ob fv pq (16,x.rd),ob jB p f]) (by
  rw [cd] at H
  have h:=H (.iface 215 (ptr p 0)) (ptr p 0) ve (.pointer none) vr vb pv pq
  rw [hx] at h
  have h2:=G.sub (L:=ob gK (.iface 215 (ptr p 0),ptr p 0,ve,.pointer none) (.fetch f)::own b (x.cells (.iface 215 (ptr p 0)) (ptr p 0) ve (.pointer none) vr vb pv pq)::ob kz (vr,pv) x.run::sl bg vb x.blocks::ob br pv x.v::ob fv pq (16,x.rd)::M) h
  rw [jJ] at h2
  simp only [List.cons_append,List.nil_append]
  exact(h2 p ⟨rfl,rfl,rfl⟩).sub)
theorem IR {p:Nat}{f:vq}(b:Nat)(x:bq)(vf:Value)(vr vb:Value)(pv pq:Nat)(hx:x.inn=.ext f)
  [ez [own b (x.cells (.iface 216 (ptr p 0)) vf (ptr p 0) (.pointer none) vr vb pv pq),ob kz (vr,pv) x.run,sl bg vb x.blocks,ob br pv x.v,ob fv pq (16,x.rd),ob zW p f] L M] (H:G w0 (ob fH b x::M) F):G w0 L F :=
 G.pickAll (As:=[own b (x.cells (.iface 216 (ptr p 0)) vf (ptr p 0) (.pointer none) vr vb pv pq),ob kz (vr,pv) x.run,sl bg vb x.blocks,ob br pv x.v,ob fv pq (16,x.rd),ob zW p f]) (by
  rw [cd] at H
  have h:=H (.iface 216 (ptr p 0)) vf (ptr p 0) (.pointer none) vr vb pv pq
  rw [hx] at h
  have h2:=G.sub (L:=ob gK (.iface 216 (ptr p 0),vf,ptr p 0,.pointer none) (.ext f)::own b (x.cells (.iface 216 (ptr p 0)) vf (ptr p 0) (.pointer none) vr vb pv pq)::ob kz (vr,pv) x.run::sl bg vb x.blocks::ob br pv x.v::ob fv pq (16,x.rd)::M) h
  rw [pO] at h2
  simp only [List.cons_append,List.nil_append]
  exact(h2 p ⟨rfl,rfl,rfl⟩).sub)
theorem H8 {p:Nat}{f:eK}(b:Nat)(x:bq)(vf ve:Value)(vr vb:Value)(pv pq:Nat)(hx:x.inn=.com f)
  [ez [own b (x.cells (.iface 217 (ptr p 0)) vf ve (ptr p 0) vr vb pv pq),ob kz (vr,pv) x.run,sl bg vb x.blocks,ob br pv x.v,ob fv pq (16,x.rd),ob iF p f] L M] (H:G w0 (ob fH b x::M) F):G w0 L F :=
 G.pickAll (As:=[own b (x.cells (.iface 217 (ptr p 0)) vf ve (ptr p 0) vr vb pv pq),ob kz (vr,pv) x.run,sl bg vb x.blocks,ob br pv x.v,ob fv pq (16,x.rd),ob iF p f]) (by
  rw [cd] at H
  have h:=H (.iface 217 (ptr p 0)) vf ve (ptr p 0) vr vb pv pq
  rw [hx] at h
  have h2:=G.sub (L:=ob gK (.iface 217 (ptr p 0),vf,ve,ptr p 0) (.com f)::own b (x.cells (.iface 217 (ptr p 0)) vf ve (ptr p 0) vr vb pv pq)::ob kz (vr,pv) x.run::sl bg vb x.blocks::ob br pv x.v::ob fv pq (16,x.rd)::M) h
  rw [pZ] at h2
  simp only [List.cons_append,List.nil_append]
  exact(h2 p ⟨rfl,rfl⟩).sub)
theorem Qv {n hi:Int}(h:0≤hi):(if (if hi<n then hi else n) > 0 then (if hi<n then hi else n) else 0)=held n 0 hi:=jK h
theorem qQ {s:eO}(hK:G w0 L (K (.agg (eO.cells (dj s)).toArray))):G w0 L (CP Tryz.prog Fn.attempt_Held [.agg (eO.cells s).toArray] K):=by
 refine E2 ?_
 unfold vN
 refine G.box fun q=>?_
 refine G.new fun q2=>?_
 refine G.drew ?_
 refine gr ?_
 refine Ee (s:=⟨s.words,s.stripes,s.wide,s.threads,s.start⟩) ?_
 refine gr ?_
 rw [Qv (n:=s.spins) (by omega),Qv (n:=s.writes) (by omega),Qv (n:=s.fuel) (by omega)]
 exact hK.sub
theorem ur {me:Int}{s:eO}(hK:∀b pv pq,G w0 (own b ((qn me s).cells .nilIface (.pointer none) (.pointer none) (.pointer none) (.pointer none) (.slice none 0 0) pv pq)::ob br pv (qn me s).v::ob fv pq (16,(qn me s).rd)::L) (K (ptr b 0))):G w0 L (CP Tryz.prog Fn.attempt_fresh [i64 me,.agg (eO.cells s).toArray] K):=by
 have e1:held (dj s).words 32 256=(dj s).words:=fL (by omega)
 have e2:held (dj s).writes 0 96=(dj s).writes:=fL (by omega)
 refine DF ?_
 unfold uC
 refine G.box fun q3=>?_
 refine gr ?_
 refine qQ ?_
 repeat' (first | (with_reducible refine G.joini0 ?_) | (with_reducible refine G.joini1 ?_) | (with_reducible refine G.drew ?_) | (simp (maxSteps:=2000000) only [↓RG,RP,RB,BEq.rfl,Int.reduceEq,Int.reduceLT,Int.reduceLE,Nat.reduceEqDiff]))
 refine Lc fun pv=>?_
 rw [e1,e2]
 refine gg ?_
 refine JC fun pq=>?_
 rw [show held 16 1 16=16 from rfl]
 refine gg ?_
 refine G.box fun b=>?_
 refine gg ?_
 exact(hK b pv pq).sub
theorem GI {me:Int}{s:eO}{p:List bu}[r:Rd w0 L v du 5 p](hv:ar v [v])(h:p.length≤1000000)(hK:∀b,G w0 (ob fH b (kN me s p)::L) (K (ptr b 0))):G w0 L (CP Tryz.prog Fn.attempt_New [i64 me,.agg (eO.cells s).toArray,.agg #[v]] K):=by
 have e3:held (dj s).fuel 0 400=(dj s).fuel:=fL (by omega)
 refine Gz ?_
 unfold yT
 refine G.box fun q1=>?_
 refine G.box fun q2=>?_
 refine gr ?_
 refine ur fun b pv pq=>?_
 repeat' (first | (with_reducible refine G.joini0 ?_) | (with_reducible refine G.joini1 ?_) | (with_reducible refine G.drew ?_) | (simp (maxSteps:=2000000) only [↓RG,RP,RB,BEq.rfl,Int.reduceEq,Int.reduceLT,Int.reduceLE,Nat.reduceEqDiff]))
 refine Je (vp:=pv) (p:=p) hv h fun pr=>?_
 repeat' (first | (with_reducible refine G.joini0 ?_) | (with_reducible refine G.joini1 ?_) | (with_reducible refine G.drew ?_) | (simp (maxSteps:=2000000) only [↓RG,RP,RB,BEq.rfl,Int.reduceEq,Int.reduceLT,Int.reduceLE,Nat.reduceEqDiff]))
 refine A0 pr pv (Bf p (dj s).fuel) ?_
 refine G.nilsl bg ?_
 have hK:=hK b
 rw [cd] at hK
 have hk:=hK .nilIface (.pointer none) (.pointer none) (.pointer none) (ptr pr 0) (.slice none 0 0) pv pq
 have h2:=G.sub (L:=ob gK (.nilIface,.pointer none,.pointer none,.pointer none) .none::own b ((kN me s p).cells .nilIface (.pointer none) (.pointer none) (.pointer none) (ptr pr 0) (.slice none 0 0) pv pq)::ob kz (ptr pr 0,pv) (kN me s p).run::sl bg (.slice none 0 0) (kN me s p).blocks::ob br pv (kN me s p).v::ob fv pq (16,(kN me s p).rd)::L) hk
 rw [v9] at h2
 have h3:=h2 rfl
 exact h3.sub
theorem Dz {me:Int}{s:eO}{bs:List Int}[r:Rd w0 L v bg 1 bs](h:bs.length≤1000000)(hK:∀b,G w0 (ob fH b (iz me s bs)::L) (K (ptr b 0))):G w0 L (CP Tryz.prog Fn.attempt_Sweep [i64 me,.agg (eO.cells s).toArray,v] K):=by
 refine DI ?_
 unfold uu
 refine G.box fun q1=>?_
 refine gg ?_
 refine ur fun b pv pq=>?_
 refine gg ?_
 refine iZ (xs:=bs) h fun u hu=>?_
 refine gg ?_
 refine DY pv ?_
 have hK:=hK b
 rw [cd] at hK
 have hk:=hK .nilIface (.pointer none) (.pointer none) (.pointer none) (.pointer none) u pv pq
 have h2:=G.sub (L:=ob gK (.nilIface,.pointer none,.pointer none,.pointer none) .none::own b ((iz me s bs).cells .nilIface (.pointer none) (.pointer none) (.pointer none) (.pointer none) u pv pq)::ob kz (.pointer none,pv) none::sl bg u bs::ob br pv (iz me s bs).v::ob fv pq (16,(iz me s bs).rd)::L) hk
 rw [v9] at h2
 have h3:=h2 rfl
 exact h3.sub
end
end Go.Proofs.YtoealglbimbbmaaGreatDoor.S
namespace Go.Proofs.YtoealglbimbbmaaGreatDoor.S
open Go Go.Proofs
set_option linter.unusedVariables false
set_option linter.unusedSimpArgs false
theorem OQ (p:Nat)(w:World):(method (Tryz.prog.types.size+Made.depth) 215 (ptr p 0) "Next").run Tryz.prog w=.ok (Fn.fetch_Fetch_Next,ptr p 0) w:=by kernel_rfl
theorem Oi (p:Nat)(w:World):(method (Tryz.prog.types.size+Made.depth) 215 (ptr p 0) "Tell").run Tryz.prog w=.ok (Fn.fetch_Fetch_Tell,ptr p 0) w:=by kernel_rfl
theorem NB (p:Nat)(w:World):(method (Tryz.prog.types.size+Made.depth) 215 (ptr p 0) "End").run Tryz.prog w=.ok (Fn.fetch_Fetch_End,ptr p 0) w:=by kernel_rfl
theorem Nv (p:Nat)(w:World):(method (Tryz.prog.types.size+Made.depth) 215 (ptr p 0) "By").run Tryz.prog w=.ok (Fn.fetch_Fetch_By,ptr p 0) w:=by kernel_rfl
theorem OI (p:Nat)(w:World):(method (Tryz.prog.types.size+Made.depth) 216 (ptr p 0) "Next").run Tryz.prog w=.ok (Fn.extend_Extend_Next,ptr p 0) w:=by kernel_rfl
theorem Oe (p:Nat)(w:World):(method (Tryz.prog.types.size+Made.depth) 216 (ptr p 0) "Tell").run Tryz.prog w=.ok (Fn.extend_Extend_Tell,ptr p 0) w:=by kernel_rfl
theorem Ov (p:Nat)(w:World):(method (Tryz.prog.types.size+Made.depth) 216 (ptr p 0) "End").run Tryz.prog w=.ok (Fn.extend_Extend_End,ptr p 0) w:=by kernel_rfl
theorem NV (p:Nat)(w:World):(method (Tryz.prog.types.size+Made.depth) 216 (ptr p 0) "By").run Tryz.prog w=.ok (Fn.extend_Extend_By,ptr p 0) w:=by kernel_rfl
theorem NL (p:Nat)(w:World):(method (Tryz.prog.types.size+Made.depth) 217 (ptr p 0) "Next").run Tryz.prog w=.ok (Fn.commit_Commit_Next,ptr p 0) w:=by kernel_rfl
theorem O2 (p:Nat)(w:World):(method (Tryz.prog.types.size+Made.depth) 217 (ptr p 0) "Tell").run Tryz.prog w=.ok (Fn.commit_Commit_Tell,ptr p 0) w:=by kernel_rfl
theorem OU (p:Nat)(w:World):(method (Tryz.prog.types.size+Made.depth) 217 (ptr p 0) "End").run Tryz.prog w=.ok (Fn.commit_Commit_End,ptr p 0) w:=by kernel_rfl
theorem NG (p:Nat)(w:World):(method (Tryz.prog.types.size+Made.depth) 217 (ptr p 0) "By").run Tryz.prog w=.ok (Fn.commit_Commit_By,ptr p 0) w:=by kernel_rfl
section
variable {w0:bh}{L M:List ay}{K:KV}{F:World→Prop}{C:ay→List ay}{b pv pq:Nat}{x:bq}{v iv vf ve vc vr vb:Value}{i:tt}
theorem G.inv {t:TypeId}{name:String}{v:Value}{f:FuncId}{args:List Value}(hm:∀w,(method (Tryz.prog.types.size+Made.depth) t v name).run Tryz.prog w=.ok (f,v) w)(h:G w0 L (CP Tryz.prog f (v::args) K)):G w0 L (FQ Tryz.prog (.iface t v) name args K) :=
 fun w H=>⟨f,v,hm w,h w H⟩
theorem Ra (ho:i.ok)(hK:G w0 (ob gK (iv,vf,ve,vc) i::M) (K (i64 i.fin))):G w0 (ob gK (iv,vf,ve,vc) i::M) (FQ Tryz.prog iv "End" [] K):=by
 cases i with
 | none=>exact ho.elim
 | fetch f=>rw [jJ] at *;intro p h;have hK:=hK p h;rw [h.1];exact G.inv (NB p) (jh (f:=f) hK)
 | ext f=>rw [pO] at *;intro p h;have hK:=hK p h;rw [h.1];exact G.inv (Ov p) (pC (x:=f) hK)
 | com f=>rw [pZ] at *;intro p h;have hK:=hK p h;rw [h.1];exact G.inv (OU p) (kn (x:=f) hK)
theorem S2 (ho:i.ok)(hK:G w0 (ob gK (iv,vf,ve,vc) i::M) (K (i64 i.by_))):G w0 (ob gK (iv,vf,ve,vc) i::M) (FQ Tryz.prog iv "By" [] K):=by
 cases i with
 | none=>exact ho.elim
 | fetch f=>rw [jJ] at *;intro p h;have hK:=hK p h;rw [h.1];exact G.inv (Nv p) (Cf (f:=f) hK)
 | ext f=>rw [pO] at *;intro p h;have hK:=hK p h;rw [h.1];exact G.inv (NV p) (zU (x:=f) hK)
 | com f=>rw [pZ] at *;intro p h;have hK:=hK p h;rw [h.1];exact G.inv (NG p) (zQ (x:=f) hK)
theorem QI (ho:i.ok)(hK:G w0 (ob gK (iv,vf,ve,vc) i::M) (K (.tuple #[.agg (rq.cells i.next.1).toArray,.bool i.next.2]))):G w0 (ob gK (iv,vf,ve,vc) i::M) (FQ Tryz.prog iv "Next" [] K):=by
 cases i with
 | none=>exact ho.elim
 | fetch f=>rw [jJ] at *;intro p h;have hK:=hK p h;rw [h.1];exact G.inv (OQ p) (zG (f:=f) hK)
 | ext f=>rw [pO] at *;intro p h;have hK:=hK p h;rw [h.1];exact G.inv (OI p) (we ho.1 hK)
 | com f=>rw [pZ] at *;intro p h;have hK:=hK p h;rw [h.1];exact G.inv (NL p) (wY ho hK)
theorem Pn {a:fG}(ho:i.ok)(hK:G w0 (ob gK (iv,vf,ve,vc) (i.tell a)::M) (K (.tuple #[]))):G w0 (ob gK (iv,vf,ve,vc) i::M) (FQ Tryz.prog iv "Tell" [.agg (fG.cells a).toArray] K):=by
 cases i with
 | none=>exact ho.elim
 | fetch f=>rw [jJ] at *;intro p h;have hK:=hK p h;rw [h.1];exact G.inv (Oi p) (z9 (f:=f) hK)
 | ext f=>rw [pO] at *;intro p h;have hK:=hK p h;rw [h.1];exact G.inv (Oe p) (xk ho.1 ho.2 hK)
 | com f=>rw [pZ] at *;intro p h;have hK:=hK p h;rw [h.1];exact G.inv (O2 p) (vG ho hK)
theorem hZ [i:aq L fH b x C](hK:G w0 L (K (i64 (if x.state=8 then x.fin else 0)))):G w0 L (CP Tryz.prog Fn.attempt_Attempt_End [ptr b 0] K):=by
 refine i.ro (fun M hK=>?_) hK
 refine uH ?_
 unfold mS
 rw [cd] at *
 intro iv vf ve vc vr vb pv pq
 have hK:=hK iv vf ve vc vr vb pv pq
 by_cases h:x.state=8
 ·rw [if_pos h] at hK
  refine eY (eq_true h) ?_
  exact hK
 ·rw [if_neg h] at hK
  refine eY h ?_
  exact hK
theorem zi [i:aq L fH b x C](hK:G w0 L (K (i64 (if x.state=8 then x.err else 0)))):G w0 L (CP Tryz.prog Fn.attempt_Attempt_Err [ptr b 0] K):=by
 refine i.ro (fun M hK=>?_) hK
 refine vd ?_
 unfold m4
 rw [cd] at *
 intro iv vf ve vc vr vb pv pq
 have hK:=hK iv vf ve vc vr vb pv pq
 by_cases h:x.state=8
 ·rw [if_pos h] at hK
  refine eY (eq_true h) ?_
  exact hK
 ·rw [if_neg h] at hK
  refine eY h ?_
  exact hK
theorem pY [i:aq L fH b x C](hK:G w0 L (K (i64 (if x.state=8 then x.by_ else -1)))):G w0 L (CP Tryz.prog Fn.attempt_Attempt_By [ptr b 0] K):=by
 refine i.ro (fun M hK=>?_) hK
 refine xh ?_
 unfold nX
 rw [cd] at *
 intro iv vf ve vc vr vb pv pq
 have hK:=hK iv vf ve vc vr vb pv pq
 by_cases h:x.state=8
 ·rw [if_pos h] at hK
  refine eY (eq_true h) ?_
  exact hK
 ·rw [if_neg h] at hK
  refine eY h ?_
  exact hK
theorem kI [i:aq L fH b x C](hK:G w0 L (K (.tuple #[u64 x.beg,.bool x.begun]))):G w0 L (CP Tryz.prog Fn.attempt_Attempt_Begin [ptr b 0] K):=by
 refine i.ro (fun M hK=>?_) hK
 refine tb ?_
 unfold ly
 rw [cd] at *
 intro iv vf ve vc vr vb pv pq
 have hK:=hK iv vf ve vc vr vb pv pq
 refine G.drew ?_
 refine gr ?_
 exact hK
theorem pn [i:aq L fH b x C](hK:G w0 L (K (u64 x.stamp))):G w0 L (CP Tryz.prog Fn.attempt_Attempt_Stamp [ptr b 0] K):=by
 refine i.ro (fun M hK=>?_) hK
 refine so ?_
 unfold kY
 rw [cd] at *
 intro iv vf ve vc vr vb pv pq
 have hK:=hK iv vf ve vc vr vb pv pq
 refine gr ?_
 exact hK
theorem Aa [i:aq L fH b x C](hK:G w0 L (K (.bool (!decide (x.state=8) && x.blocking)))):G w0 L (CP Tryz.prog Fn.attempt_Attempt_Blocking [ptr b 0] K):=by
 refine i.ro (fun M hK=>?_) hK
 refine qi ?_
 unfold jx
 rw [cd] at *
 intro iv vf ve vc vr vb pv pq
 have hK:=hK iv vf ve vc vr vb pv pq
 refine gu ?_
 by_cases h:x.state=8
 ·rw [decide_eq_true h] at hK
  refine eY (eq_true h) ?_
  exact hK
 ·rw [decide_eq_false h] at hK
  refine eY h ?_
  exact hK
theorem Fa (hl:x.rd.length≤1000000)[i:aq L fH b x C](hK:∀u,ar u [u]→G w0 (sl gm u x.rd::L) (K u)):G w0 L (CP Tryz.prog Fn.attempt_Attempt_Seen [ptr b 0] K):=by
 refine i.roN (fun M hK=>?_) hK
 refine t9 ?_
 unfold mh
 rw [cd]
 intro iv vf ve vc vr vb pv pq
 refine gr ?_
 refine l9 (xs:=x.rd) hl fun u hu=>?_
 refine gr ?_
 refine eF b x iv vf ve vc vr vb pv pq ?_
 exact(hK u hu).sub
theorem DQ (hl:x.v.k.length≤1000000)[i:aq L fH b x C](hK:∀u,ar u [u]→G w0 (sl bf u x.v.k::L) (K u)):G w0 L (CP Tryz.prog Fn.attempt_Attempt_Reads [ptr b 0] K):=by
 refine i.roN (fun M hK=>?_) hK
 refine s9 ?_
 unfold lx
 rw [cd]
 intro iv vf ve vc vr vb pv pq
 refine gr ?_
 refine Iv (s:=x.v) hl fun u hu=>?_
 refine gr ?_
 refine eF b x iv vf ve vc vr vb pv pq ?_
 exact(hK u hu).sub
theorem lS [i:aq L fH b x C](hK:G w0 L (K (.bool x.wr))):G w0 L (CP Tryz.prog Fn.attempt_Attempt_Writing [ptr b 0] K):=by
 refine i.ro (fun M hK=>?_) hK
 refine q9 ?_
 unfold jS
 rw [cd] at *
 intro iv vf ve vc vr vb pv pq
 have hK:=hK iv vf ve vc vr vb pv pq
 refine gu ?_
 by_cases h:x.state=8
 ·have hw:x.wr=false:=by unfold bq.wr;simp [h]
  rw [hw] at hK
  refine eY (eq_true h) ?_
  exact hK
 ·have hw:x.wr=x.inn.wr:=by unfold bq.wr;simp [h]
  rw [hw] at hK
  cases hi:x.inn with
  | none =>
   rw [hi] at hK
   have hK:G w0 (ob gK (iv,vf,ve,vc) .none::own b (x.cells iv vf ve vc vr vb pv pq)::ob kz (vr,pv) x.run::sl bg vb x.blocks::ob br pv x.v::ob fv pq (16,x.rd)::M) (K (.bool false)):=hK.sub
   rw [v9] at hK
   refine G.take1 gK (iv,vf,ve,vc) ?_
   rw [v9]
   intro e
   have hK:=hK e
   subst e
   refine eY h ?_
   exact hK
  | fetch f =>
   rw [hi] at hK
   have hK:G w0 (ob gK (iv,vf,ve,vc) (.fetch f)::own b (x.cells iv vf ve vc vr vb pv pq)::ob kz (vr,pv) x.run::sl bg vb x.blocks::ob br pv x.v::ob fv pq (16,x.rd)::M) (K (.bool false)):=hK.sub
   rw [jJ] at hK
   refine G.take1 gK (iv,vf,ve,vc) ?_
   rw [jJ]
   intro p e
   have hK:=hK p e
   obtain⟨e1,e2,e3⟩:=e
   subst e3
   refine eY h ?_
   exact hK
  | ext f =>
   rw [hi] at hK
   have hK:G w0 (ob gK (iv,vf,ve,vc) (.ext f)::own b (x.cells iv vf ve vc vr vb pv pq)::ob kz (vr,pv) x.run::sl bg vb x.blocks::ob br pv x.v::ob fv pq (16,x.rd)::M) (K (.bool false)):=hK.sub
   rw [pO] at hK
   refine G.take1 gK (iv,vf,ve,vc) ?_
   rw [pO]
   intro p e
   have hK:=hK p e
   obtain⟨e1,e2,e3⟩:=e
   subst e3
   refine eY h ?_
   exact hK
  | com f =>
   rw [hi] at hK
   have hK:G w0 (ob gK (iv,vf,ve,vc) (.com f)::own b (x.cells iv vf ve vc vr vb pv pq)::ob kz (vr,pv) x.run::sl bg vb x.blocks::ob br pv x.v::ob fv pq (16,x.rd)::M) (K (.bool ((f.writing && decide (f.pat.fin=0)) || decide (f.pat.fin=2)))):=hK.sub
   rw [pZ] at hK
   refine G.take1 gK (iv,vf,ve,vc) ?_
   rw [pZ]
   intro p e
   have hK:=hK p e
   obtain⟨e1,e3⟩:=e
   subst e3
   refine eY h ?_
   refine sn (x:=f) ?_
   refine gr ?_
   refine G.any (decide (f.pat.fin=2)) (fun _ K hK=>?_) ?_
   ·refine gr ?_
    refine kn (x:=f) ?_
    refine gr ?_
    exact hK
   ·exact hK
theorem ko [i:aq L fH b x C](hK:G w0 L (K (.bool x.done))):G w0 L (CP Tryz.prog Fn.attempt_Attempt_committed [ptr b 0] K):=by
 refine i.ro (fun M hK=>?_) hK
 refine pV ?_
 unfold ji
 refine hZ (x:=x) ?_
 refine gu ?_
 refine gr ?_
 refine G.any x.wr (fun _ K hK=>?_) ?_
 ·refine gr ?_
  refine lS (x:=x) ?_
  exact hK
 ·exact hK
theorem DA [i:aq L fH b x C](hK:∀u:lA,G w0 (sl bf u.v (if x.done then x.v.l.cells else [])::L) (K u.v)):G w0 L (CP Tryz.prog Fn.attempt_Attempt_Cells [ptr b 0] K):=by
 refine i.roN (P:=fun _=>True) (N:=fun u:lA=>sl bf u.v (if x.done then x.v.l.cells else [])) (F':=fun u=>K u.v) (fun M hK=>?_) (fun u _=>hK u)
 have hK:=fun u=>hK u trivial
 refine tm ?_
 unfold kW
 refine ko (x:=x) ?_
 cases hd:x.done
 ·simp only [hd,Bool.false_eq_true,if_false] at hK
  refine gr ?_
  refine G.nilsl bf ?_
  exact hK ⟨none,0,0⟩
 ·simp only [hd,if_true] at hK
  refine gr ?_
  rw [cd]
  intro iv vf ve vc vr vb pv pq
  refine gr ?_
  refine BH (s:=x.v) fun u hu=>?_
  refine eF b x iv vf ve vc vr vb pv pq ?_
  refine G.isSl (v:=u) fun s hs=>?_
  subst hs
  exact(hK s).sub
theorem ug (hf:x.done=true→x.v.l.frees.length≤1000000)(hb:x.blocks.length≤1000000)[i:aq L fH b x C](hK:∀u:lA,G w0 (sl bg u.v x.freed::L) (K u.v)):G w0 L (CP Tryz.prog Fn.attempt_Attempt_Frees [ptr b 0] K):=by
 refine i.roN (P:=fun _=>True) (N:=fun u:lA=>sl bg u.v x.freed) (F':=fun u=>K u.v) (fun M hK=>?_) (fun u _=>hK u)
 have hK:=fun u=>hK u trivial
 refine sK ?_
 unfold lq
 refine ko (x:=x) ?_
 cases hd:x.done
 ·simp only [bq.freed,hd,Bool.false_eq_true,if_false] at hK
  refine gr ?_
  refine G.nilsl bg ?_
  exact hK ⟨none,0,0⟩
 ·refine gr ?_
  rw [cd]
  intro iv vf ve vc vr vb pv pq
  cases hr:x.run with
  | none =>
   simp only [bq.freed,hd,if_true,hr] at hK
   refine G.take1 kz (vr,pv) ?_
   rw [AE]
   intro e
   subst e
   refine gr ?_
   refine iZ (xs:=x.blocks) hb fun u hu=>?_
   refine DY pv ?_
   rw [←hr]
   refine eF b x iv vf ve vc (.pointer none) vb pv pq ?_
   refine G.isSl (v:=u) fun s hs=>?_
   subst hs
   exact(hK s).sub
  | some r =>
   simp only [bq.freed,hd,if_true,hr] at hK
   refine G.take1 kz (vr,pv) ?_
   rw [Bb]
   intro p e
   subst e
   refine gr ?_
   refine Ii (s:=x.v) (hf hd) fun u hu=>?_
   refine A0 p pv r ?_
   rw [←hr]
   refine eF b x iv vf ve vc (ptr p 0) vb pv pq ?_
   refine G.isSl (v:=u) fun s hs=>?_
   subst hs
   exact(hK s).sub
theorem ux (ht:uP w0)(hs:x.done=true→AG x.items)[i:aq L fH b x C](hK:∀s,vA x s→G w0 L (K (.string s))):G w0 L (CP Tryz.prog Fn.attempt_Attempt_Slate [ptr b 0] K):=by
 refine i.roN (P:=vA x) (N:=fun _=>Lj) (F':=fun s=>K (.string s)) (fun M hK=>?_) (fun s hs=>by rw [J8];exact hK s hs)
 simp only [J8] at hK
 refine th ?_
 unfold lr
 refine ko (x:=x) ?_
 refine gu ?_
 cases hd:x.done
 ·refine gr ?_
  exact hK ⟨#[]⟩ (fun g=>by rw [hd] at g;cases g)
 ·refine gr ?_
  rw [cd]
  intro iv vf ve vc vr vb pv pq
  have hs:=hs hd
  cases hr:x.run with
  | none =>
   refine G.take1 kz (vr,pv) ?_
   rw [AE]
   intro e
   subst e
   refine gr ?_
   refine DY pv ?_
   rw [←hr]
   refine eF b x iv vf ve vc (.pointer none) vb pv pq ?_
   exact(hK ⟨#[]⟩ (fun _ r g=>by rw [hr] at g;cases g)).sub
  | some r =>
   have hs:AG r.items:=by unfold bq.items at hs;rw [hr] at hs;exact hs
   refine G.take1 kz (vr,pv) ?_
   rw [Bb]
   intro p e
   subst e
   refine gr ?_
   refine FM (vp:=pv) (x:=r) (by have:=hs.1;omega) fun c=>?_
   refine gr ?_
   refine H6 ht (xs:=r.items) hs fun s hsl=>?_
   refine A0 p pv r ?_
   rw [←hr]
   refine eF b x iv vf ve vc (ptr p 0) vb pv pq ?_
   exact(hK s (fun _ q g=>by rw [hr] at g;cases g;exact hsl)).sub
end
end Go.Proofs.YtoealglbimbbmaaGreatDoor.S
