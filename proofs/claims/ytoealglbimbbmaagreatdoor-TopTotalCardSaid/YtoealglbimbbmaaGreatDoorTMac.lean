import Derived.Test.YtoealglbimbbmaaGreatDoorTMod
set_option linter.defProp false
set_option linter.unusedVariables false
set_option linter.unusedSimpArgs false
namespace Go.Proofs.YtoealglbimbbmaaGreatDoor.S
open Go Go.Proofs
def lB (k:Value×Value×Value×Value):zT->bg
 | .none=>kx (k.2.2.2=.pointer none)
 | .fetch f=>pz λp=>cj (kx (k.1=.iface 215 (ptr p 0)/\k.2.1=ptr p 0/\k.2.2.2=.pointer none)) (ob oq p f)
 | .ext x=>pz λp=>cj (kx (k.1=.iface 216 (ptr p 0)/\k.2.2.1=ptr p 0/\k.2.2.2=.pointer none)) (ob IC p x)
 | .com x=>pz λp=>cj (kx (k.1=.iface 217 (ptr p 0)/\k.2.2.2=ptr p 0)) (ob mz p x)
abbrev az.cells (x:az)(iv vf ve vc:Value)(vr vb:Value)(pv pq:Nat):List Value:=[i64 x.me,i64 x.s.a0,i64 x.s.F,i64 x.s.wide,i64 x.s.aB,u64 x.s.start,i64 x.s.aR,i64 x.s.bP,i64 x.s.fuel,vr,vb,i64 x.aQ,ptr pv 0,ptr pq 0,i64 x.B,iv,vf,ve,vc,.bool x.aq,u64 x.a2,u64 x.I,i64 x.O,i64 x.aY,i64 x.aV,.bool x.aO]
def pJ (k:Value×Nat):Option ig->bg
 |none=>kx (k.1=.pointer none)
 |some r=>pz λp=>cj (kx (k.1=ptr p 0)) (ob eY (p,k.2) r)
def je (b:Nat)(x:az):bg:=pz λiv=>pz λvf=>pz λve=>pz λvc=>pz λvr=>pz λvb=>pz λpv=>pz λpq=>cj (cj (cj (cj (cj (own b (x.cells iv vf ve vc vr vb pv pq)) (ob pJ (vr,pv) x.run)) (sl bq vb x.aD)) (ob bf pv x.v)) (ob jF pq (16,x.rd))) (ob lB (iv,vf,ve,vc) x.Z)
section
variable {w0:bz}{L M:List bg}{K:KV}{F:World->Prop}{C:bg->List bg}{b pv pq:Nat}{x:az}{v iv vf ve vc vr vb:Value}
def dr:G w0 (ob je b x::M) F=∀iv vf ve vc vr vb pv pq,G w0 (own b (x.cells iv vf ve vc vr vb pv pq)::ob pJ (vr,pv) x.run::sl bq vb x.aD::ob bf pv x.v::ob jF pq (16,x.rd)::ob lB (iv,vf,ve,vc) x.Z::M) F:=by
 rw[iw,je]
 simp only[pM,im]
def ir (b:Nat)(x:az)(iv vf ve vc:Value)(vr vb:Value)(pv pq:Nat) [dn [own b (x.cells iv vf ve vc vr vb pv pq),ob pJ (vr,pv) x.run,sl bq vb x.aD,ob bf pv x.v,ob jF pq (16,x.rd),ob lB (iv,vf,ve,vc) x.Z] L M](H:G w0 (ob je b x::M) F):G w0 L F :=
 G.ap (As:=[own b (x.cells iv vf ve vc vr vb pv pq),ob pJ (vr,pv) x.run,sl bq vb x.aD,ob bf pv x.v,ob jF pq (16,x.rd),ob lB (iv,vf,ve,vc) x.Z]) (by rw[dr]at H;exact H iv vf ve vc vr vb pv pq)
def JV:G w0 (ob pJ (vr,pv) none::M) F=(vr=.pointer none->G w0 M F):=by rw[iw,pJ];simp only[jk]
def Kz {r:ig}:G w0 (ob pJ (vr,pv) (some r)::M) F=∀p,vr=ptr p 0->G w0 (ob eY (p,pv) r::M) F:=by rw[iw,pJ];simp only[pM,im,jk]
def K3 (p pv:Nat)(r:ig) [dn [ob eY (p,pv) r] L M](H:G w0 (ob pJ (ptr p 0,pv) (some r)::M) F):G w0 L F :=
 G.ap (As:=[ob eY (p,pv) r]) (by rw[Kz]at H;exact H p rfl)
def N4 (pv:Nat)(H:G w0 (ob pJ (.pointer none,pv) none::M) F):G w0 M F:=by rw[JV]at H;exact H rfl
def EM:G w0 (ob lB (iv,vf,ve,vc) .none::M) F=(vc=.pointer none->G w0 M F):=by
 rw[iw,lB];simp only[jk]
def oP {f:fe}:G w0 (ob lB (iv,vf,ve,vc) (.fetch f)::M) F=∀p,(iv=.iface 215 (ptr p 0)/\vf=ptr p 0/\vc=.pointer none)->G w0 (ob oq p f::M) F:=by
 rw[iw,lB];simp only[pM,im,jk]
def wJ {f:mj}:G w0 (ob lB (iv,vf,ve,vc) (.ext f)::M) F=∀p,(iv=.iface 216 (ptr p 0)/\ve=ptr p 0/\vc=.pointer none)->G w0 (ob IC p f::M) F:=by
 rw[iw,lB];simp only[pM,im,jk]
def wK {f:ct}:G w0 (ob lB (iv,vf,ve,vc) (.com f)::M) F=∀p,(iv=.iface 217 (ptr p 0)/\vc=ptr p 0)->G w0 (ob mz p f::M) F:=by
 rw[iw,lB];simp only[pM,im,jk]
def FD {p:Nat}{f:fe}(b:Nat)(x:az)(ve:Value)(vr vb:Value)(pv pq:Nat)(hx:x.Z=.fetch f)
  [dn [own b (x.cells (.iface 215 (ptr p 0)) (ptr p 0) ve (.pointer none) vr vb pv pq),ob pJ (vr,pv) x.run,sl bq vb x.aD,ob bf pv x.v,ob jF pq (16,x.rd),ob oq p f] L M] (H:G w0 (ob je b x::M) F):G w0 L F :=
 G.ap (As:=[own b (x.cells (.iface 215 (ptr p 0)) (ptr p 0) ve (.pointer none) vr vb pv pq),ob pJ (vr,pv) x.run,sl bq vb x.aD,ob bf pv x.v,ob jF pq (16,x.rd),ob oq p f]) (by
  rw[dr]at H
  have h:=H (.iface 215 (ptr p 0)) (ptr p 0) ve (.pointer none) vr vb pv pq
  rw[hx]at h
  have h2:=G.sub (L:=ob lB (.iface 215 (ptr p 0),ptr p 0,ve,.pointer none) (.fetch f)::own b (x.cells (.iface 215 (ptr p 0)) (ptr p 0) ve (.pointer none) vr vb pv pq)::ob pJ (vr,pv) x.run::sl bq vb x.aD::ob bf pv x.v::ob jF pq (16,x.rd)::M) h
  rw[oP]at h2
  simp only[Fn,GT]
  exact(h2 p ⟨rfl,rfl,rfl⟩).sub)
def UR {p:Nat}{f:mj}(b:Nat)(x:az)(vf:Value)(vr vb:Value)(pv pq:Nat)(hx:x.Z=.ext f)
  [dn [own b (x.cells (.iface 216 (ptr p 0)) vf (ptr p 0) (.pointer none) vr vb pv pq),ob pJ (vr,pv) x.run,sl bq vb x.aD,ob bf pv x.v,ob jF pq (16,x.rd),ob IC p f] L M] (H:G w0 (ob je b x::M) F):G w0 L F :=
 G.ap (As:=[own b (x.cells (.iface 216 (ptr p 0)) vf (ptr p 0) (.pointer none) vr vb pv pq),ob pJ (vr,pv) x.run,sl bq vb x.aD,ob bf pv x.v,ob jF pq (16,x.rd),ob IC p f]) (by
  rw[dr]at H
  have h:=H (.iface 216 (ptr p 0)) vf (ptr p 0) (.pointer none) vr vb pv pq
  rw[hx]at h
  have h2:=G.sub (L:=ob lB (.iface 216 (ptr p 0),vf,ptr p 0,.pointer none) (.ext f)::own b (x.cells (.iface 216 (ptr p 0)) vf (ptr p 0) (.pointer none) vr vb pv pq)::ob pJ (vr,pv) x.run::sl bq vb x.aD::ob bf pv x.v::ob jF pq (16,x.rd)::M) h
  rw[wJ]at h2
  simp only[Fn,GT]
  exact(h2 p ⟨rfl,rfl,rfl⟩).sub)
def Uh {p:Nat}{f:ct}(b:Nat)(x:az)(vf ve:Value)(vr vb:Value)(pv pq:Nat)(hx:x.Z=.com f)
  [dn [own b (x.cells (.iface 217 (ptr p 0)) vf ve (ptr p 0) vr vb pv pq),ob pJ (vr,pv) x.run,sl bq vb x.aD,ob bf pv x.v,ob jF pq (16,x.rd),ob mz p f] L M] (H:G w0 (ob je b x::M) F):G w0 L F :=
 G.ap (As:=[own b (x.cells (.iface 217 (ptr p 0)) vf ve (ptr p 0) vr vb pv pq),ob pJ (vr,pv) x.run,sl bq vb x.aD,ob bf pv x.v,ob jF pq (16,x.rd),ob mz p f]) (by
  rw[dr]at H
  have h:=H (.iface 217 (ptr p 0)) vf ve (ptr p 0) vr vb pv pq
  rw[hx]at h
  have h2:=G.sub (L:=ob lB (.iface 217 (ptr p 0),vf,ve,ptr p 0) (.com f)::own b (x.cells (.iface 217 (ptr p 0)) vf ve (ptr p 0) vr vb pv pq)::ob pJ (vr,pv) x.run::sl bq vb x.aD::ob bf pv x.v::ob jF pq (16,x.rd)::M) h
  rw[wK]at h2
  simp only[Fn,GT]
  exact(h2 p ⟨rfl,rfl⟩).sub)
def ad_ {n hi:Int}(h:0<=hi):(if(if hi<n then hi else n) > 0 then(if hi<n then hi else n)else 0)=held n 0 hi:=oG h
def yo {s:cv}(hK:G w0 L (K (.agg (cv.cells (gi s)).toArray))):G w0 L (ac 37 [.agg (cv.cells s).toArray] K):=by
 refine PJ ?_
 unfold Ey
 refine G.box λq=>?_
 refine G.new λa=>?_
 refine G.drew (ar ?_)
 refine PY (s:=⟨s.a0,s.F,s.wide,s.aB,s.start⟩) (ar ?_)
 rw[ad_ (n:=s.aR) zo,ad_ (n:=s.bP) zo,ad_ (n:=s.fuel) zo]
 exact hK.sub
def CB {me:Int}{s:cv}(hK:∀b pv pq,G w0 (own b ((uX me s).cells .nilIface (.pointer none) (.pointer none) (.pointer none) (.pointer none) (.slice none 0 0) pv pq)::ob bf pv (uX me s).v::ob jF pq (16,(uX me s).rd)::L) (K (ptr b 0))):G w0 L (ac 138 [i64 me,.agg (cv.cells s).toArray] K):=by
 have a:held (gi s).a0 32 256=(gi s).a0:=nv zo
 have c:held (gi s).bP 0 96=(gi s).bP:=nv zo
 refine NS ?_
 unfold Cq
 refine G.box λd=>ar ?_
 refine yo (bi ?_)
 refine Ow λpv=>?_
 rw[a,c]
 refine bi ?_
 refine Wx λpq=>?_
 rw[show held 16 1 16=16 from rfl]
 refine bi ?_
 refine G.box λb=>bi ?_
 exact(hK b pv pq).sub
def RQ {me:Int}{s:cv}{p:List co}[r:Rd w0 L v fx 5 p](l:ax v [v])(h:nI p)(hK:∀b,G w0 (ob je b (om me s p)::L) (K (ptr b 0))):G w0 L (ac 107 [i64 me,.agg (cv.cells s).toArray,.agg #[v]] K):=by
 have j:held (gi s).fuel 0 400=(gi s).fuel:=nv zo
 refine Q1 ?_
 unfold Hs
 refine G.box λi=>?_
 refine G.box λk=>ar ?_
 refine CB λb a d=>bi ?_
 refine Ub (vp:=a) (p:=p) l (by unfold nI at h;omega) λc=>bi ?_
 refine K3 c a (KM p (gi s).fuel) ?_
 refine G.a3 bq ?_
 have hK:=hK b
 rw[dr]at hK
 have f:=hK .nilIface (.pointer none) (.pointer none) (.pointer none) (ptr c 0) (.slice none 0 0) a d
 have e:=G.sub (L:=ob lB (.nilIface,.pointer none,.pointer none,.pointer none) .none::own b ((om me s p).cells .nilIface (.pointer none) (.pointer none) (.pointer none) (ptr c 0) (.slice none 0 0) a d)::ob pJ (ptr c 0,a) (om me s p).run::sl bq (.slice none 0 0) (om me s p).aD::ob bf a (om me s p).v::ob jF d (16,(om me s p).rd)::L) f
 rw[EM]at e
 have g:=e rfl
 exact g.sub
def NG {me:Int}{s:cv}{bs:List Int}[r:Rd w0 L v bq 1 bs](h:bs.length<=1000000)(hK:∀b,G w0 (ob je b (lm me s bs)::L) (K (ptr b 0))):G w0 L (ac 106 [i64 me,.agg (cv.cells s).toArray,v] K):=by
 refine NE ?_
 unfold Cv
 refine G.box λg=>bi ?_
 refine CB λb a c=>bi ?_
 refine mQ (xs:=bs) h λu i=>bi ?_
 refine N4 a ?_
 have hK:=hK b
 rw[dr]at hK
 have e:=hK .nilIface (.pointer none) (.pointer none) (.pointer none) (.pointer none) u a c
 have d:=G.sub (L:=ob lB (.nilIface,.pointer none,.pointer none,.pointer none) .none::own b ((lm me s bs).cells .nilIface (.pointer none) (.pointer none) (.pointer none) (.pointer none) u a c)::ob pJ (.pointer none,a) none::sl bq u bs::ob bf a (lm me s bs).v::ob jF c (16,(lm me s bs).rd)::L) e
 rw[EM]at d
 have f:=d rfl
 exact f.sub
end
end Go.Proofs.YtoealglbimbbmaaGreatDoor.S
namespace Go.Proofs.YtoealglbimbbmaaGreatDoor.S
open Go Go.Proofs
def aaD (p:Nat)(w:World):(method (Tryz.prog.types.size+Made.depth) 215 (ptr p 0) "Next").run Tryz.prog w=.ok (399,ptr p 0) w:=by kernel_rfl
def aaJ (p:Nat)(w:World):(method (Tryz.prog.types.size+Made.depth) 215 (ptr p 0) "Tell").run Tryz.prog w=.ok (400,ptr p 0) w:=by kernel_rfl
def abn (p:Nat)(w:World):(method (Tryz.prog.types.size+Made.depth) 215 (ptr p 0) "End").run Tryz.prog w=.ok (206,ptr p 0) w:=by kernel_rfl
def abV (p:Nat)(w:World):(method (Tryz.prog.types.size+Made.depth) 215 (ptr p 0) "By").run Tryz.prog w=.ok (398,ptr p 0) w:=by kernel_rfl
def aba (p:Nat)(w:World):(method (Tryz.prog.types.size+Made.depth) 216 (ptr p 0) "Next").run Tryz.prog w=.ok (407,ptr p 0) w:=by kernel_rfl
def acx (p:Nat)(w:World):(method (Tryz.prog.types.size+Made.depth) 216 (ptr p 0) "Tell").run Tryz.prog w=.ok (408,ptr p 0) w:=by kernel_rfl
def aaK (p:Nat)(w:World):(method (Tryz.prog.types.size+Made.depth) 216 (ptr p 0) "End").run Tryz.prog w=.ok (211,ptr p 0) w:=by kernel_rfl
def abq (p:Nat)(w:World):(method (Tryz.prog.types.size+Made.depth) 216 (ptr p 0) "By").run Tryz.prog w=.ok (406,ptr p 0) w:=by kernel_rfl
def abp (p:Nat)(w:World):(method (Tryz.prog.types.size+Made.depth) 217 (ptr p 0) "Next").run Tryz.prog w=.ok (410,ptr p 0) w:=by kernel_rfl
def aaA (p:Nat)(w:World):(method (Tryz.prog.types.size+Made.depth) 217 (ptr p 0) "Tell").run Tryz.prog w=.ok (411,ptr p 0) w:=by kernel_rfl
def acq (p:Nat)(w:World):(method (Tryz.prog.types.size+Made.depth) 217 (ptr p 0) "End").run Tryz.prog w=.ok (157,ptr p 0) w:=by kernel_rfl
def abE (p:Nat)(w:World):(method (Tryz.prog.types.size+Made.depth) 217 (ptr p 0) "By").run Tryz.prog w=.ok (409,ptr p 0) w:=by kernel_rfl
section
variable {w0:bz}{L M:List bg}{K:KV}{F:World->Prop}{C:bg->List bg}{b pv pq:Nat}{x:az}{v iv vf ve vc vr vb:Value}{i:zT}
def G.bY {t:TypeId}{name:String}{v:Value}{f:FuncId}{args:List Value}(hm:∀w,(method (Tryz.prog.types.size+Made.depth) t v name).run Tryz.prog w=.ok (f,v) w)(h:G w0 L (ac f (v::args) K)):G w0 L (PQ Tryz.prog (.iface t v) name args K) :=
 λw H=>⟨f,v,hm w,h w H⟩
def afu (a:i.ok)(hK:G w0 (ob lB (iv,vf,ve,vc) i::M) (K (i64 i.O))):G w0 (ob lB (iv,vf,ve,vc) i::M) (PQ Tryz.prog iv "End" [] K):=by
 cases i with
 |none=>exact a.elim
 |fetch f=>rw[oP]at *;intro p h;have hK:=hK p h;rw[h.1];exact G.bY (abn p) (nO (f:=f) hK)
 |ext f=>rw[wJ]at *;intro p h;have hK:=hK p h;rw[h.1];exact G.bY (aaK p) (wm (x:=f) hK)
 |com f=>rw[wK]at *;intro p h;have hK:=hK p h;rw[h.1];exact G.bY (acq p) (o9 (x:=f) hK)
def aiF (a:i.ok)(hK:G w0 (ob lB (iv,vf,ve,vc) i::M) (K (i64 i.aY))):G w0 (ob lB (iv,vf,ve,vc) i::M) (PQ Tryz.prog iv "By" [] K):=by
 cases i with
 |none=>exact a.elim
 |fetch f=>rw[oP]at *;intro p h;have hK:=hK p h;rw[h.1];exact G.bY (abV p) (L4 (f:=f) hK)
 |ext f=>rw[wJ]at *;intro p h;have hK:=hK p h;rw[h.1];exact G.bY (abq p) (Iq (x:=f) hK)
 |com f=>rw[wK]at *;intro p h;have hK:=hK p h;rw[h.1];exact G.bY (abE p) (IE (x:=f) hK)
def acW (a:i.ok)(hK:G w0 (ob lB (iv,vf,ve,vc) i::M) (K (.tuple #[.agg (vV.cells i.next.1).toArray,.bool i.next.2]))):G w0 (ob lB (iv,vf,ve,vc) i::M) (PQ Tryz.prog iv "Next" [] K):=by
 cases i with
 |none=>exact a.elim
 |fetch f=>rw[oP]at *;intro p h;have hK:=hK p h;rw[h.1];exact G.bY (aaD p) (HN (f:=f) hK)
 |ext f=>rw[wJ]at *;intro p h;have hK:=hK p h;rw[h.1];exact G.bY (aba p) (EH a.1 hK)
 |com f=>rw[wK]at *;intro p h;have hK:=hK p h;rw[h.1];exact G.bY (abp p) (DS a hK)
def aeC {a:ii}(b:i.ok)(hK:G w0 (ob lB (iv,vf,ve,vc) (i.br a)::M) (K (.tuple #[]))):G w0 (ob lB (iv,vf,ve,vc) i::M) (PQ Tryz.prog iv "Tell" [.agg (ii.cells a).toArray] K):=by
 cases i with
 |none=>exact b.elim
 |fetch f=>rw[oP]at *;intro p h;have hK:=hK p h;rw[h.1];exact G.bY (aaJ p) (IB (f:=f) hK)
 |ext f=>rw[wJ]at *;intro p h;have hK:=hK p h;rw[h.1];exact G.bY (acx p) (Fb b.1 b.2 hK)
 |com f=>rw[wK]at *;intro p h;have hK:=hK p h;rw[h.1];exact G.bY (aaA p) (D6 b hK)
def lU [i:ae L je b x C](hK:G w0 L (K (i64 (if x.B=8 then x.O else 0)))):G w0 L (ac 79 [ptr b 0] K):=by
 refine i.ro (λM hK=>?_) hK
 refine Dr ?_
 unfold sA
 rw[dr]at *
 intro j f k g a c e d
 have hK:=hK j f k g a c e d
 by_cases h:x.B=8
 ·rw[zp h]at hK
  refine ca (eq_true h) ?_
  exact hK
 ·rw[zn h]at hK
  refine ca h ?_
  exact hK
def Hf [i:ae L je b x C](hK:G w0 L (K (i64 (if x.B=8 then x.aV else 0)))):G w0 L (ac 114 [ptr b 0] K):=by
 refine i.ro (λM hK=>?_) hK
 refine Dv ?_
 unfold sF
 rw[dr]at *
 intro j f k g a c e d
 have hK:=hK j f k g a c e d
 by_cases h:x.B=8
 ·rw[zp h]at hK
  refine ca (eq_true h) ?_
  exact hK
 ·rw[zn h]at hK
  refine ca h ?_
  exact hK
def wT [i:ae L je b x C](hK:G w0 L (K (i64 (if x.B=8 then x.aY else -1)))):G w0 L (ac 111 [ptr b 0] K):=by
 refine i.ro (λM hK=>?_) hK
 refine Dz ?_
 unfold um
 rw[dr]at *
 intro j f k g a c e d
 have hK:=hK j f k g a c e d
 by_cases h:x.B=8
 ·rw[zp h]at hK
  refine ca (eq_true h) ?_
  exact hK
 ·rw[zn h]at hK
  refine ca h ?_
  exact hK
def pW [i:ae L je b x C](hK:G w0 L (K (.tuple #[u64 x.a2,.bool x.aq]))):G w0 L (ac 77 [ptr b 0] K):=by
 refine i.ro (λM hK=>?_) hK
 refine Be ?_
 unfold qb
 rw[dr]at *
 intro h f j g a c e d
 have hK:=hK h f j g a c e d
 refine G.drew (ar ?_)
 exact hK
def vL [i:ae L je b x C](hK:G w0 L (K (u64 x.I))):G w0 L (ac 116 [ptr b 0] K):=by
 refine i.ro (λM hK=>?_) hK
 refine Aq ?_
 unfold qz
 rw[dr]at *
 intro h f j g a c e d
 have hK:=hK h f j g a c e d
 refine ar ?_
 exact hK
def HR [i:ae L je b x C](hK:G w0 L (K (.bool (!decide (x.B=8)&&x.aO)))):G w0 L (ac 84 [ptr b 0] K):=by
 refine i.ro (λM hK=>?_) hK
 refine xG ?_
 unfold ol
 rw[dr]at *
 intro j f k g a c e d
 have hK:=hK j f k g a c e d
 refine mK ?_
 by_cases h:x.B=8
 ·rw[decide_eq_true h]at hK
  refine ca (eq_true h) ?_
  exact hK
 ·rw[decide_eq_false h]at hK
  refine ca h ?_
  exact hK
def OE (l:x.rd.length<=1000000)[i:ae L je b x C](hK:∀u,ax u [u]->G w0 (sl lh u x.rd::L) (K u)):G w0 L (ac 83 [ptr b 0] K):=by
 refine i.cb (λM hK=>?_) hK
 refine BQ ?_
 unfold qS
 rw[dr]
 intro j g k h a d f e
 refine ar ?_
 refine qV (xs:=x.rd) l λu c=>ar ?_
 refine ir b x j g k h a d f e ?_
 exact(hK u c).sub
def Nr (m:x.v.k.length<=1000000)[i:ae L je b x C](hK:∀u,ax u [u]->G w0 (sl cg u x.v.k::L) (K u)):G w0 L (ac 129 [ptr b 0] K):=by
 refine i.cb (λM hK=>?_) hK
 refine Bu ?_
 unfold qB
 rw[dr]
 intro j g l h a d f e
 refine ar ?_
 refine KZ (s:=x.v) m λu c=>ar ?_
 refine ir b x j g l h a d f e ?_
 exact(hK u c).sub
def qX [i:ae L je b x C](hK:G w0 L (K (.bool x.wr))):G w0 L (ac 128 [ptr b 0] K):=by
 refine i.ro (λM hK=>?_) hK
 refine yN ?_
 unfold oX
 rw[dr]at *
 intro j a c g l k d m
 have hK:=hK j a c g l k d m
 refine mK ?_
 by_cases h:x.B=8
 ·have q:x.wr=false:=by grind
  rw[q]at hK
  refine ca (eq_true h) ?_
  exact hK
 ·have q:x.wr=x.Z.wr:=by grind
  rw[q]at hK
  cases o:x.Z with
  |none =>
   rw[o]at hK
   have hK:G w0 (ob lB (j,a,c,g) .none::own b (x.cells j a c g l k d m)::ob pJ (l,d) x.run::sl bq k x.aD::ob bf d x.v::ob jF m (16,x.rd)::M) (K (.bool false)):=hK.sub
   rw[EM]at hK
   refine G.aJ lB (j,a,c,g) ?_
   rw[EM]
   intro e
   have hK:=hK e
   subst e
   refine ca h ?_
   exact hK
  |fetch f =>
   rw[o]at hK
   have hK:G w0 (ob lB (j,a,c,g) (.fetch f)::own b (x.cells j a c g l k d m)::ob pJ (l,d) x.run::sl bq k x.aD::ob bf d x.v::ob jF m (16,x.rd)::M) (K (.bool false)):=hK.sub
   rw[oP]at hK
   refine G.aJ lB (j,a,c,g) ?_
   rw[oP]
   intro p e
   have hK:=hK p e
   obtain⟨r,s,n⟩:=e
   subst n
   refine ca h ?_
   exact hK
  |ext f =>
   rw[o]at hK
   have hK:G w0 (ob lB (j,a,c,g) (.ext f)::own b (x.cells j a c g l k d m)::ob pJ (l,d) x.run::sl bq k x.aD::ob bf d x.v::ob jF m (16,x.rd)::M) (K (.bool false)):=hK.sub
   rw[wJ]at hK
   refine G.aJ lB (j,a,c,g) ?_
   rw[wJ]
   intro p e
   have hK:=hK p e
   obtain⟨r,s,n⟩:=e
   subst n
   refine ca h ?_
   exact hK
  |com f =>
   rw[o]at hK
   have hK:G w0 (ob lB (j,a,c,g) (.com f)::own b (x.cells j a c g l k d m)::ob pJ (l,d) x.run::sl bq k x.aD::ob bf d x.v::ob jF m (16,x.rd)::M) (K (.bool ((f.ao&&decide (f.Y.O=0))||decide (f.Y.O=2)))):=hK.sub
   rw[wK]at hK
   refine G.aJ lB (j,a,c,g) ?_
   rw[wK]
   intro p e
   have hK:=hK p e
   obtain⟨r,n⟩:=e
   subst n
   refine ca h ?_
   refine Bc (x:=f) (ar ?_)
   refine G.any (decide (f.Y.O=2)) (λ_ K hK=>?_) ?_
   ·refine ar ?_
    refine o9 (x:=f) (ar ?_)
    exact hK
   ·exact hK
def o6 [i:ae L je b x C](hK:G w0 L (K (.bool x.done))):G w0 L (ac 149 [ptr b 0] K):=by
 refine i.ro (λM hK=>?_) hK
 refine wZ ?_
 unfold nS
 refine lU (x:=x) (mK ?_)
 refine ar ?_
 refine G.any x.wr (λ_ K hK=>?_) ?_
 ·refine ar ?_
  refine qX (x:=x) ?_
  exact hK
 ·exact hK
def ND [i:ae L je b x C](hK:∀u:rq,G w0 (sl cg u.v (if x.done then x.v.l.cells else [])::L) (K u.v)):G w0 L (ac 130 [ptr b 0] K):=by
 refine i.cb (P:=λ_=>True) (N:=λu:rq=>sl cg u.v (if x.done then x.v.l.cells else [])) (F':=λu=>K u.v) (λM hK=>?_) (λu _=>hK u)
 have hK:=λu=>hK u trivial
 refine Bb ?_
 unfold qj
 refine o6 (x:=x) ?_
 cases a:x.done
 ·simp only[a,Or,if_false]at hK
  refine ar ?_
  refine G.a3 cg ?_
  exact hK ⟨none,0,0⟩
 ·simp only[a,if_true]at hK
  refine ar ?_
  rw[dr]
  intro k g m h c d f e
  refine ar ?_
  refine wH (s:=x.v) λu n=>?_
  refine ir b x k g m h c d f e ?_
  refine G.cq (v:=u) λs j=>?_
  subst j
  exact(hK s).sub
def Cn (t:x.done=true->x.v.l.aH.length<=1000000)(hb:x.aD.length<=1000000)[i:ae L je b x C](hK:∀u:rq,G w0 (sl bq u.v x.bc::L) (K u.v)):G w0 L (ac 118 [ptr b 0] K):=by
 refine i.cb (P:=λ_=>True) (N:=λu:rq=>sl bq u.v x.bc) (F':=λu=>K u.v) (λM hK=>?_) (λu _=>hK u)
 have hK:=λu=>hK u trivial
 refine A9 ?_
 unfold qy
 refine o6 (x:=x) ?_
 cases d:x.done
 ·simp only[az.bc,d,Or,if_false]at hK
  refine ar ?_
  refine G.a3 bq ?_
  exact hK ⟨none,0,0⟩
 ·refine ar ?_
  rw[dr]
  intro o h j n k g a m
  cases c:x.run with
  |none =>
   simp only[az.bc,d,if_true,c]at hK
   refine G.aJ pJ (k,a) ?_
   rw[JV]
   intro e
   subst e
   refine ar ?_
   refine mQ (xs:=x.aD) hb λu q=>?_
   refine N4 a ?_
   rw[<-c]
   refine ir b x o h j n (.pointer none) g a m ?_
   refine G.cq (v:=u) λs f=>?_
   subst f
   exact(hK s).sub
  |some r =>
   simp only[az.bc,d,if_true,c]at hK
   refine G.aJ pJ (k,a) ?_
   rw[Kz]
   intro p e
   subst e
   refine ar ?_
   refine Kn (s:=x.v) (t d) λu q=>?_
   refine K3 p a r ?_
   rw[<-c]
   refine ir b x o h j n (ptr p 0) g a m ?_
   refine G.cq (v:=u) λs f=>?_
   subst f
   exact(hK s).sub
def CJ (ht:Cj w0)(d:x.done=true->KA x.af)[i:ae L je b x C](hK:∀s,B2 x s->G w0 L (K (.string s))):G w0 L (ac 115 [ptr b 0] K):=by
 refine i.cb (P:=B2 x) (N:=λ_=>X3) (F':=λs=>K (.string s)) (λM hK=>?_) (λs d=>by rw[VP];exact hK s d)
 simp only[VP]at hK
 refine Bi ?_
 unfold qq
 refine o6 (x:=x) (mK ?_)
 cases l:x.done
 ·refine ar ?_
  exact hK ⟨#[]⟩ (λg=>by rw[l]at g;cases g)
 ·refine ar ?_
  rw[dr]
  intro u k m t n j a o
  have d:=d l
  cases f:x.run with
  |none =>
   refine G.aJ pJ (n,a) ?_
   rw[JV]
   intro e
   subst e
   refine ar ?_
   refine N4 a ?_
   rw[<-f]
   refine ir b x u k m t (.pointer none) j a o ?_
   exact(hK ⟨#[]⟩ (λ_ r g=>by rw[f]at g;cases g)).sub
  |some r =>
   have d:KA r.af:=by grind
   refine G.aJ pJ (n,a) ?_
   rw[Kz]
   intro p e
   subst e
   refine ar ?_
   refine On (vp:=a) (x:=r) (by have:=d.1;omega) λc=>ar ?_
   refine S8 ht (xs:=r.af) d λs h=>?_
   refine K3 p a r ?_
   rw[<-f]
   refine ir b x u k m t (ptr p 0) j a o ?_
   exact(hK s (λ_ q g=>by rw[f]at g;cases g;exact h)).sub
end
end Go.Proofs.YtoealglbimbbmaaGreatDoor.S
namespace Go.Proofs.YtoealglbimbbmaaGreatDoor.S
open Go Go.Proofs
section
variable {w0:bz}{L M:List bg}{K:KV}{F:World->Prop}{C:bg->List bg}{b p pv pq:Nat}{x:az}{v iv vf ve vc vr vb:Value}{i:zT}{c:Int}
def G.c5 (h:i.bh=false)(H:vc=.pointer none->G w0 M F):G w0 (ob lB (iv,vf,ve,vc) i::M) F:=by
 cases i with
 |none=>rw[EM];exact H
 |fetch f=>rw[oP];intro p e;exact(H e.2.2).sub
 |ext f=>rw[wJ];intro p e;exact(H e.2.2).sub
 |com f=>cases h
def nA {e er l:Int}[i:ae L je b x C](hK:G w0 (C (ob je b (ip x e er l))) (K (.tuple #[]))):G w0 L (ac 108 [ptr b 0,i64 e,i64 er,i64 l] K):=by
 refine i.bi (λM hK=>?_) hK
 refine Dp ?_
 unfold r8
 rw[dr]at *
 intro j g k h a c f d
 have hK:=hK j g k h a c f d
 refine ar ?_
 exact hK
def Hc (m:x.Z.bh=false)[i:ae L je b x C](hK:G w0 (C (ob je b (rB x c))) (K (.tuple #[]))):G w0 L (ac 141 [ptr b 0,i64 c] K):=by
 refine i.bi (λM hK=>?_) hK
 refine C9 ?_
 unfold sR
 rw[dr]
 intro l j a k d f h g
 refine G.aJ lB (l,j,a,k) ?_
 refine G.c5 m λe=>?_
 subst e
 refine G.drew (ar ?_)
 refine M8 (ar ?_)
 refine WG λp=>ar ?_
 refine mn ?_
 unfold kC
 refine ar ?_
 refine FD (p:=p) b (rB x c) a d f h g rfl ?_
 exact hK
def Cz {n:Int}(o:x.Z.bh=false)(l:x.rd.length<=1000000)[i:ae L je b x C](hK:G w0 (C (ob je b (uI x n))) (K (.tuple #[]))):G w0 L (ac 143 [ptr b 0,i64 n] K):=by
 refine i.bi (λM hK=>?_) hK
 refine Az ?_
 unfold qw
 rw[dr]
 intro j a k h c d g f
 refine G.aJ lB (j,a,k,h) ?_
 refine G.c5 o λe=>?_
 subst e
 refine G.drew (ar ?_)
 refine qV (xs:=x.rd) l λu m=>ar ?_
 refine S0 (xs:=x.rd) l λp=>ar ?_
 refine mn ?_
 unfold kC
 refine ar ?_
 refine UR (p:=p) b (uI x n) a c d g f rfl ?_
 exact hK.sub
def Tl (O:∀r,x.run=some r->zW r x.v)(P:x.aD.length<=1000000/\x.aQ<=x.aD.length)[i:ae L je b x C](hK:∀ρ,da ρ->G w0 (C (ob je b (iu ρ x).1)) (K (.tuple #[i64 (iu ρ x).2.1,i64 (iu ρ x).2.2]))) :
  G w0 L (ac 140 [ptr b 0] K):=by
 refine i.cJ (A':=λz:{ ρ // da ρ }=>ob je b (iu z.1 x).1) (F':=λz=>K (.tuple #[i64 (iu z.1 x).2.1,i64 (iu z.1 x).2.2])) (λM hK=>?_) (λz=>hK z.1 z.2)
 have hK:∀ρ,da ρ->G w0 (ob je b (iu ρ x).1::M) (K (.tuple #[i64 (iu ρ x).2.1,i64 (iu ρ x).2.2])):=λρ h=>hK ⟨ρ,h⟩
 refine DB ?_
 unfold ut
 rw[dr]
 intro u m n p H l d o
 cases w:x.run with
 |some r =>
  refine G.aJ pJ (H,d) ?_
  rw[Kz]
  intro D e
  subst e
  refine bi ?_
  refine G.ap (As:=[ob eY (D,d) r,ob bf d x.v]) ?_
  simp only[Fn,GT]
  refine UM (O r w) λR B=>?_
  obtain⟨ρ,F,I⟩:=ahY (O r w) B
  have hK:=hK ρ F
  have e:iu ρ x=({ x with run:=some R.1,v:=R.2.1 },R.2.2,R.1.aV):=by unfold iu;rw[w];simp only;rw[I]
  rw[e]at hK
  obtain⟨y,t,q⟩:=R
  simp only at hK ⊢
  refine bi ?_
  refine S3 (vp:=d) (x:=y) ?_
  refine K3 D d y ?_
  refine ir b { x with run:=some y,v:=t } u m n p (ptr D 0) l d o (bi ?_)
  exact hK
 |none =>
  obtain⟨ρ,F⟩:=zY
  have hK:=hK ρ F
  have e:iu ρ x=({ x with aQ:=(j7 (x.aD.drop x.aQ) x.aQ x.v).1,v:=(j7 (x.aD.drop x.aQ) x.aQ x.v).2.1 },(j7 (x.aD.drop x.aQ) x.aQ x.v).2.2.1,(j7 (x.aD.drop x.aQ) x.aQ x.v).2.2.2):=by unfold iu;rw[w]
  rw[e]at hK
  refine G.aJ pJ (H,d) ?_
  rw[JV]
  intro e
  subst e
  refine bi ?_
  generalize B:j7 (x.aD.drop x.aQ) x.aQ x.v=R at hK
  refine G.cV (σ:=Nat×iX) (λz=>own b (az.cells { x with aQ:=z.1,v:=z.2 } u m n p (.pointer none) l d o)::sl bq l x.aD::ob bf d z.2::ob jF o (16,x.rd)::ob lB (u,m,n,p) x.Z::M) (λz=>z.1<=x.aD.length/\j7 (x.aD.drop z.1) z.1 z.2=R) (λz=>x.aD.length-z.1) (x.aQ,x.v) rfl ⟨P.2,B⟩ ?_
  rintro⟨k,s⟩ ⟨N,a⟩ J hJ
  simp only at N a hJ ⊢
  have f:∀{j:iX} {q e:Int},R=(k,j,q,e)->G w0 (own b (az.cells { x with aQ:=k,v:=j } u m n p (.pointer none) l d o)::sl bq l x.aD::ob bf d j::ob jF o (16,x.rd)::ob lB (u,m,n,p) x.Z::M) (K (.tuple #[i64 q,i64 e])):=λ{j q e} h=>by
   rw[h]at hK
   refine N4 d ?_
   rw[<-w]
   refine ir b { x with aQ:=k,v:=j } u m n p (.pointer none) l d o ?_
   exact hK
  by_cases c:k<x.aD.length
  ·have e:=dm c
   rw[zav c,j7]at a
   have E:((k:Int)<x.aD.length):=by omega
   refine bx E ?_
   refine Td (s:=s) ?_
   generalize v9 s x.aD[k]=q at a
   obtain⟨j,q⟩:=q
   simp only at a ⊢
   by_cases A:q=0
   ·rw[zp A]at a
    refine bx (eq_true A) ?_
    rw[fm zo]
    exact(hJ (k+1,j) ⟨c,a⟩ (by simp only;omega)).sub
   ·rw[zn A]at a
    by_cases g:q=11
    ·rw[zp g]at a
     refine bx (an A (eq_true g)) ?_
     exact(f a.symm).sub
    ·rw[zn g]at a
     refine bx (an A g) ?_
     exact(f a.symm).sub
  ·have E:¬((k:Int)<x.aD.length):=by omega
   rw[zaB zo,j7]at a
   refine bx E ?_
   exact(f a.symm).sub
def En (U:O1 x)[i:ae L je b x C](hK:∀ρ,da ρ->G w0 (C (ob je b (iq ρ x))) (K (.tuple #[]))) :
  G w0 L (ac 109 [ptr b 0] K):=by
 refine i.cJ (A':=λz:{ ρ // da ρ }=>ob je b (iq z.1 x)) (F':=λ_=>K (.tuple #[])) (λM hK=>?_) (λz=>hK z.1 z.2)
 have hK:∀ρ,da ρ->G w0 (ob je b (iq ρ x)::M) (K (.tuple #[])):=λρ h=>hK ⟨ρ,h⟩
 refine B8 ?_
 unfold rL
 obtain⟨P,H,a,D⟩:=U
 refine Tl (x:=x) P H λρ O=>?_
 have hK:=hK ρ O
 unfold iq at hK
 have a:(iu ρ x).1.Z.bh=false:=by unfold iu;split<;>exact a
 have D:(iu ρ x).1.rd.length<=1000:=by unfold iu;split<;>exact D
 generalize iu ρ x=R at hK a D
 obtain⟨y,q,e⟩:=R
 unfold j0 at hK
 simp only at hK a D ⊢
 rw[dr]
 intro t d f r n k j o
 refine G.eG (b:=j) (s:=y.v) λ_ E=>?_
 have S:=Pq E
 by_cases c:q=1
 ·rw[zp c]at hK
  refine bx (eq_true c) ?_
  refine yY (s:=y.v) ?_
  refine ir b y t d f r n k j o ?_
  refine Hc (x:=y) a (bi ?_)
  exact hK
 rw[zn c]at hK
 by_cases m:q=3
 ·rw[zp m]at hK
  refine bx (an c (eq_true m)) ?_
  refine ir b { y with aO:=true } t d f r n k j o ?_
  refine Cz (x:={ y with aO:=true }) a (by simp only;omega) (bi ?_)
  exact hK
 rw[zn m]at hK
 by_cases A:q=4
 ·rw[zp A]at hK
  refine bx (an c (an m (eq_true A))) ?_
  refine ir b y t d f r n k j o ?_
  refine nA (x:=y) (bi ?_)
  exact hK
 rw[zn A]at hK
 refine bx (an c (an m A)) ?_
 refine wH (s:=y.v) λu Q=>?_
 by_cases w:y.v.l.cells=[]
 ·rw[zp w]at hK
  rw[w]
  refine bx (an @List.length_nil.{0} @Int.cast_ofNat_Int) ?_
  refine ir b y t d f r n k j o ?_
  refine nA (x:=y) (bi ?_)
  exact hK.sub
 ·rw[zn w]at hK
  have N:¬((y.v.l.cells.length:Nat):Int)=0:=by
   intro g
   exact w (zbU.1 zo)
  refine G.aJ lB (t,d,f,r) ?_
  refine G.c5 a λe=>?_
  subst e
  refine bx N ?_
  refine qV (xs:=y.rd) zo λT J=>bi ?_
  refine To (seen:=y.rd) (cells:=y.v.l.cells) zo zo λp=>bi ?_
  refine mn ?_
  unfold kC
  refine bi ?_
  refine Uh (p:=p) b { y with Z:=.com (ov y.me y.s.aR y.I y.rd y.v.l.cells (j4 (gh y.v.l.cells y.s.F y.s.wide) 16)),B:=6 } d f n k j o rfl ?_
  exact hK.sub
def JE {f:fe}(q:x.Z=.fetch f)(U:WZ x f)[i:ae L je b x C]
  (hK:∀ρ,da ρ->G w0 (C (ob je b (cq ρ x f))) (K (.tuple #[]))):G w0 L (ac 177 [ptr b 0] K):=by
 refine i.cJ (A':=λz:{ ρ // da ρ }=>ob je b (cq z.1 x f)) (F':=λ_=>K (.tuple #[])) (λM hK=>?_) (λz=>hK z.1 z.2)
 have hK:∀ρ,da ρ->G w0 (ob je b (cq ρ x f)::M) (K (.tuple #[])):=λρ h=>hK ⟨ρ,h⟩
 refine yH ?_
 unfold oV
 obtain⟨Q,B,T,t⟩:=U
 rw[dr]
 intro A E j P l g d n
 refine G.aJ lB (A,E,j,P) ?_
 rw[q,oP]
 rintro p ⟨F,S,H⟩
 subst F S H
 refine ar ?_
 refine nO (f:=f) ?_
 obtain⟨y,o⟩:=zY
 rcases Q with u|hf2
 ·have hK:=hK y o
  unfold cq at hK
  rw[zp u]at hK
  refine ca u ?_
  refine FD (p:=p) b x j l g d n q ?_
  refine Cz (x:=x) (by rw[q]) zo (ar ?_)
  exact hK
 ·have w:¬f.Y.O=6:=by omega
  have t:=t hf2
  refine bx hf2 ?_
  refine HX (f:=f) ?_
  rw[zp hf2]
  refine bi ?_
  refine Kl (m:=16) (xs:=x.rd) (x:=⟨f.N,f.ac.D⟩) B ?_
  by_cases k:rK 16 x.rd ⟨f.N,f.ac.D⟩=0
  ·rw[k]
   refine bi ?_
   refine yY (s:=x.v) (bi ?_)
   refine HH (f:=f) ?_
   rw[zp hf2]
   refine bi ?_
   refine EQ (s:=x.v) zo (bi ?_)
   refine FD (p:=p) (f:=f) b (ju x f) j l g d n q ?_
   refine En (x:=ju x f) (t k) λρ I=>?_
   have hK:=hK ρ I
   unfold cq at hK
   rw[zn w,zp k]at hK
   refine bi ?_
   exact hK
  ·have hK:=hK y o
   unfold cq at hK
   rw[zn w,zn k]at hK
   have c:∀e r J,G w0 (ob je b (ip (lz x f) e r (-1))::M) J->G w0 (ob jF n (16,oF 16 x.rd ⟨f.N,f.ac.D⟩)::ob oq p f::own b (x.cells (.iface 215 (ptr p 0)) (ptr p 0) j (.pointer none) l g d n)::ob pJ (l,d) x.run::sl bq g x.aD::ob bf d x.v::M) (ac 108 [ptr b 0,i64 e,i64 r,i64 (-1)] (λ_=>J)):=λe r J R=>by
    refine FD (p:=p) (f:=f) b (lz x f) j l g d n q ?_
    exact nA (x:=lz x f) R
   by_cases a:rK 16 x.rd ⟨f.N,f.ac.D⟩=14
   ·rw[zp a]at hK
    rw[a]
    refine bi ?_
    exact(c 5 0 _ hK).sub
   ·rw[zn a]at hK
    refine bx (an k a) ?_
    exact(c 4 _ _ hK).sub
def NZ (F:XO x)(h0:x.Z.O≠0)(r:x.Z.O≠5)[i:ae L je b x C](hK:∀ρ,da ρ->G w0 (C (ob je b (nr ρ x))) (K (.tuple #[]))):G w0 L (ac 147 [ptr b 0] K):=by
 refine i.cJ (A':=λz:{ ρ // da ρ }=>ob je b (nr z.1 x)) (F':=λ_=>K (.tuple #[])) (λM hK=>?_) (λz=>hK z.1 z.2)
 have hK:∀ρ,da ρ->G w0 (ob je b (nr ρ x)::M) (K (.tuple #[])):=λρ h=>hK ⟨ρ,h⟩
 refine AL ?_
 unfold qe
 cases a:x.Z with
 |none=>have:=F.ok;rw[a]at this;exact this.elim
 |fetch f =>
  obtain⟨S,H⟩:=F.fetch f a
  rw[a]at h0 r
  have h0:f.Y.O≠0:=h0
  have r:f.Y.O≠5:=r
  have H:WZ x f:=by grind
  simp only[nr,a]at hK
  rw[dr]
  intro u d o t j n l k
  refine bx (eq_true S) ?_
  refine ir b x u d o t j n l k ?_
  refine JE (x:=x) (f:=f) a H λρ P=>bi ?_
  exact hK ρ P
 |ext e =>
  obtain⟨V,U⟩:=F.ext e a
  rw[a]at h0 r
  have h0:e.Y.O≠0:=h0
  have r:e.Y.O≠5:=r
  have q:e.Y.O=2:=by omega
  obtain⟨E,g⟩:=zY
  have hK:=hK E g
  simp only[nr,a]at hK
  rw[dr]
  intro u d o t j n l k
  refine G.aJ lB (u,d,o,t) ?_
  rw[a,wJ]
  rintro p ⟨A,T,D⟩
  subst A T D
  have w:x.B≠3:=by omega
  by_cases y:x.B=4
  ·rw[zp y]at hK
   refine bx (an w (eq_true y)) ?_
   refine sN (x:=e) ?_
   rw[zp q]
   refine bi ?_
   refine yY (s:=x.v) ?_
   refine UR (p:=p) (f:=e) b { x with I:=e.I } d j n l k a ?_
   refine Hc (x:={ x with I:=e.I }) (c:=x.v.a9) (by show x.Z.bh=false;rw[a]) (bi ?_)
   exact hK
  ·rw[zn y]at hK
   have Q:x.B=5:=by omega
   refine bx (an w (an y (eq_true Q))) ?_
   refine sN (x:=e) ?_
   rw[zp q]
   refine bi ?_
   refine UR (p:=p) (f:=e) b { x with I:=e.I } d j n l k a ?_
   refine nA (x:={ x with I:=e.I }) (bi ?_)
   rw[<-a]at hK
   exact hK
 |com m =>
  have J:=F.com m a
  obtain⟨E,g⟩:=zY
  have hK:=hK E g
  simp only[nr,a]at hK
  rw[dr]
  intro u d o t j n l k
  refine G.aJ lB (u,d,o,t) ?_
  rw[a,wK]
  rintro p ⟨A,D⟩
  subst A D
  have w:x.B≠3:=by omega
  have R:x.B≠4:=by omega
  have N:x.B≠5:=by omega
  refine bx (an w (an R (an N (eq_true J)))) ?_
  refine o9 (x:=m) (bi ?_)
  refine Gq (x:=m) (bi ?_)
  refine Uh (p:=p) (f:=m) b x d o j n l k a ?_
  refine nA (x:=x) (bi ?_)
  exact hK
def xw (hK:G w0 (ob je b (gZ x)::M) (K (.tuple #[]))):G w0 (ob je b x::M) (ac 128 [ptr b 0] (λx6=>aj x6 (ji (ptr b 0) (λx7=>j9 18 x7 (λx8=>ad x8 (λx9=>ac 148 [x9] (λx10=>ji (ptr b 0) (λx11=>j9 21 x11 (λx12=>fh 1 x12 x10 (λ_=>K (.tuple #[]))))))))) (K (.tuple #[])))):=by
 refine qX (x:=x) ?_
 unfold gZ at hK
 cases g:x.wr
 ·rw[zn (by rw[g];decide)]at hK
  refine ar ?_
  exact hK
 ·rw[zp g]at hK
  have c:x.Z.wr=true:=by grind
  cases a:x.Z with
  |none=>rw[a]at c;cases c
  |fetch f=>rw[a]at c;cases c
  |ext f=>rw[a]at c;cases c
  |com m =>
   simp only[a]at hK
   rw[dr]
   intro r d h q j k n l
   refine G.aJ lB (r,d,h,q) ?_
   rw[a,wK]
   rintro p ⟨i,o⟩
   subst i o
   refine ar ?_
   refine Du (x:=m) (ar ?_)
   refine Uh (p:=p) (f:=m) b { x with I:=zT.I (.com m) } d h j k n l a ?_
   have e:({ x with I:=zT.I (.com m) }:az)={ me:=x.me,s:=x.s,run:=x.run,aD:=x.aD,aQ:=x.aQ,v:=x.v,rd:=x.rd,B:=x.B,Z:=.com m,aq:=x.aq,a2:=x.a2,I:=zT.I (.com m),O:=x.O,aY:=x.aY,aV:=x.aV,aO:=x.aO }:=by rw[a]
   rw[e]
   exact hK
def Qb (p:XO x)[i:ae L je b x C](hK:∀ρ,da ρ->G w0 (C (ob je b (bu ρ x))) (K (.tuple #[]))):G w0 L (ac 110 [ptr b 0] K):=by
 refine i.cJ (A':=λz:{ ρ // da ρ }=>ob je b (bu z.1 x)) (F':=λ_=>K (.tuple #[])) (λM hK=>?_) (λz=>hK z.1 z.2)
 have hK:∀ρ,da ρ->G w0 (ob je b (bu ρ x)::M) (K (.tuple #[])):=λρ h=>hK ⟨ρ,h⟩
 refine B6 ?_
 unfold qR
 rw[dr]
 intro g e j f k n m l
 refine bi ?_
 refine G.aJ lB (g,e,j,f) ?_
 refine afu p.ok ?_
 obtain⟨o,d⟩:=zY
 by_cases a:x.Z.O=0
 ·have hK:=hK o d
  unfold bu at hK
  rw[zp a]at hK
  refine bx a ?_
  refine ir b x g e j f k n m l ?_
  refine xw (x:=x) ?_
  exact hK
 ·by_cases c:x.Z.O=5
  ·have hK:=hK o d
   unfold bu at hK
   rw[zn a,zp c]at hK
   refine bx (an a c) ?_
   refine aiF p.ok (bi ?_)
   refine ir b x g e j f k n m l ?_
   refine nA (x:=x) (bi ?_)
   refine xw (x:=ip x 5 0 x.Z.aY) ?_
   exact hK
  ·refine bx (an a c) ?_
   refine ir b x g e j f k n m l ?_
   refine NZ (x:=x) p a c λρ q=>?_
   have hK:=hK ρ q
   unfold bu at hK
   rw[zn a,zn c]at hK
   refine bi ?_
   refine xw (x:=nr ρ x) ?_
   exact hK
def PI {a:ii}(y:tA x a)[i:ae L je b x C](hK:∀ρ,da ρ->G w0 (C (ob je b (ah ρ x a))) (K (.tuple #[]))):G w0 L (ac 78 [ptr b 0,.agg (ii.cells a).toArray] K):=by
 refine i.cJ (A':=λz:{ ρ // da ρ }=>ob je b (ah z.1 x a)) (F':=λ_=>K (.tuple #[])) (λM hK=>?_) (λz=>hK z.1 z.2)
 have hK:∀ρ,da ρ->G w0 (ob je b (ah ρ x a)::M) (K (.tuple #[])):=λρ h=>hK ⟨ρ,h⟩
 refine BN ?_
 unfold rh
 refine G.box λq=>?_
 rw[jc,dr]
 intro m j k l p n s r
 have t:=y.aV
 obtain⟨D,w⟩:=zY
 have c:=hK D w
 unfold ah at c
 by_cases d:x.B=8
 ·rw[zp d,dr]at c
  refine bx (eq_true d) ?_
  exact(c m j k l p n s r).sub
 rw[zn d]at c
 by_cases e:x.B=0
 ·rw[zp e,dr]at c
  refine bx (an d (an (eq_true e) (eq_true t))) ?_
  exact(c m j k l p n s r).sub
 rw[zn e]at c
 by_cases f:x.B=1
 ·rw[zp f,dr]at c
  refine bx (an d (an e (an (eq_true f) (eq_true t)))) ?_
  exact(c m j k l p n s r).sub
 rw[zn f]at c
 by_cases g:x.B=2
 ·have u:=y.cM g
  refine bx (an d (an e (an f (an (eq_true g) (eq_true t))))) ?_
  refine ir b x m j k l p n s r ?_
  refine En (x:=x) u λρ v=>?_
  have hK:=hK ρ v
  unfold ah at hK
  rw[zn d,zn e,zn f,zp g]at hK
  refine bi ?_
  exact hK.sub
 rw[zn g]at c
 by_cases o:x.B=7
 ·rw[zp o,dr]at c
  refine bx (an d (an e (an f (an g (an (eq_true o) (eq_true t)))))) ?_
  exact(c m j k l p n s r).sub
 rw[zn o]at c
 obtain⟨u,A⟩:=y.Z e f g o d
 refine bx (an d (an e (an f (an g (an o (eq_true t)))))) ?_
 refine G.aJ lB (m,j,k,l) ?_
 refine aeC u (bi ?_)
 refine ir b { x with Z:=x.Z.br a } m j k l p n s r ?_
 refine Qb (x:={ x with Z:=x.Z.br a }) A λρ v=>?_
 have hK:=hK ρ v
 unfold ah at hK
 rw[zn d,zn e,zn f,zn g,zn o]at hK
 refine bi ?_
 exact hK.sub
def Qo (p:x.B≠0->x.B≠1->x.B≠2->x.B≠7->x.B≠8->x.Z.ok)[i:ae L je b x C](hK:G w0 L (K (.tuple #[.agg (vV.cells (ak x).1).toArray,.bool (ak x).2]))):G w0 L (ac 75 [ptr b 0] K):=by
 refine i.ro (λM hK=>?_) hK
 refine Cb ?_
 unfold qJ
 refine G.new λq=>?_
 rw[jc]
 rw[dr]at *
 intro j g k h l m o n
 have hK:=hK j g k h l m o n
 unfold ak at hK
 by_cases a:x.B=0
 ·rw[zp a]at hK
  refine bx (eq_true a) ?_
  exact hK.sub
 rw[zn a]at hK
 by_cases c:x.B=1
 ·rw[zp c]at hK
  refine bx (an a (eq_true c)) ?_
  exact hK.sub
 rw[zn c]at hK
 by_cases d:x.B=2
 ·rw[zp d]at hK
  refine bx (an a (an c (eq_true d))) ?_
  exact hK.sub
 rw[zn d]at hK
 by_cases e:x.B=7
 ·rw[zp e]at hK
  refine bx (an a (an c (an d (eq_true e)))) ?_
  exact hK.sub
 rw[zn e]at hK
 by_cases f:x.B=8
 ·rw[zp f]at hK
  refine bx (an a (an c (an d (an e (eq_true f))))) ?_
  exact hK.sub
 rw[zn f]at hK
 refine bx (an a (an c (an d (an e f)))) ?_
 refine G.aJ lB (j,g,k,h) ?_
 refine acW (p a c d e f) (bi ?_)
 exact hK.sub
end
def eQ {α:Type}(f:α->bg)(_:Unit)(l:List α):bg:=fg (l.map f)
section
variable {α:Type}{f:α->bg}{w0:bz}{L M:List bg}{F:World->Prop}{l:List α}{x:α}{k:Nat}
def nH (h:l[k]? = some x):G w0 (ob (eQ f) () l::M) F=G w0 (f x::ob (eQ f) () (l.eraseIdx k)::M) F:=eJ (by
 show cj (ob (eQ f) () l) (fg M)=cj (f x) (cj (ob (eQ f) () (l.eraseIdx k)) (fg M))
 rw[iw (eQ f),iw (eQ f),eQ,YK _ h,<-N7];rfl)
def pU:G w0 (ob (eQ f) () (l++[x])::M) F=G w0 (f x::ob (eQ f) () l::M) F:=by
 rw[nH (k:=l.length) (x:=x) zs]
 congr 3
 simp[zbV]
def tI (H:G w0 (ob (eQ f) () []::M) F):G w0 M F:=by
 have:G w0 (ob (eQ f) () []::M) F=G w0 (X3::M) F:=by
  rw[iw];rfl
 rw[this,VP]at H
 exact H
end
abbrev NA (p:rq×List co):bg:=sl fx p.1.v p.2
def qf (v:Value)(jobs:List (List co)):bg:=pz λl:List (rq×List co)=>cj (kx (l.map (·.2)=jobs)) (cj (sl jj v (l.map (·.1))) (ob (eQ NA) () l))
abbrev wu:Type:=Iv×Ta×List Int
abbrev kB (p:wu):bg:=cj (cj (sl cg p.1.a5.v p.2.1.a5) (sl cg p.1.bu.v p.2.1.cells)) (sl bq p.1.aH.v p.2.2)
structure M9 (p:wu):Prop where
 I:p.1.I=p.2.1.I
 done:decide (p.1.aN=2)=p.2.1.done
 aP:p.1.aP=p.2.1.aP
 ch:p.1.ch=p.2.1.ch
 a5:p.2.1.a5.length<=1000
 cells:p.2.1.cells.length<=1000
 aH:p.2.2.length<=100000
def ox (v:Value)(l:List Ta):bg:=pz λq:List wu=>cj (kx (q.map (·.2.1)=l/\∀p∈q,M9 p)) (cj (sl mm v (q.map (·.1))) (ob (eQ kB) () q))
def rS (v:Value):Option az->bg
 |none=>kx (v=.pointer none)
 |some a=>pz λp=>cj (kx (v=ptr p 0)) (ob je p a)
abbrev bm.cells (x:bm)(vj vn vp vr:Value)(lp:Nat)(vt vs:Value):List Value:=[i64 x.me,i64 x.s.a0,i64 x.s.F,i64 x.s.wide,i64 x.s.aB,u64 x.s.start,i64 x.s.aR,i64 x.s.bP,i64 x.s.fuel,vj,i64 x.aI,i64 x.B,.bool x.aE,vt,i64 x.aM,i64 x.a7,vn,i64 x.aP,.bool x.bD,vp,vr,ptr lp 0,vs,i64 x.aY,u64 x.cl,.bool x.c2,i64 x.aS]
def kP (b:Nat)(x:bm):bg:=pz λvj=>pz λvn=>pz λvp=>pz λvr=>pz λlp=>pz λvt=>pz λvs=>cj (cj (cj (cj (cj (cj (cj (own b (x.cells vj vn vp vr lp vt vs)) (ob qf vj x.aw)) (ob rS vn x.aj)) (ob ox vp x.aA)) (sl lQ vr x.aX)) (ob (pf dz) lp x.aC)) (sl dz vt x.aF)) (sl i9 vs x.aK)
section
variable {w0:bz}{L M:List bg}{K:KV}{F:World->Prop}{C:bg->List bg}{b lp p:Nat}{x:bm}{v vj vn vp vr vt vs:Value}{a:az}{jobs:List (List co)}
def ic:G w0 (ob kP b x::M) F=∀vj vn vp vr lp vt vs,G w0 (own b (x.cells vj vn vp vr lp vt vs)::ob qf vj x.aw::ob rS vn x.aj::ob ox vp x.aA::sl lQ vr x.aX::ob (pf dz) lp x.aC::sl dz vt x.aF::sl i9 vs x.aK::M) F:=by
 rw[iw,kP]
 simp only[pM,im]
def dj (b:Nat)(x:bm)(vj vn vp vr:Value)(lp:Nat)(vt vs:Value) [dn [own b (x.cells vj vn vp vr lp vt vs),ob qf vj x.aw,ob rS vn x.aj,ob ox vp x.aA,sl lQ vr x.aX,ob (pf dz) lp x.aC,sl dz vt x.aF,sl i9 vs x.aK] L M](H:G w0 (ob kP b x::M) F):G w0 L F :=
 G.ap (As:=[own b (x.cells vj vn vp vr lp vt vs),ob qf vj x.aw,ob rS vn x.aj,ob ox vp x.aA,sl lQ vr x.aX,ob (pf dz) lp x.aC,sl dz vt x.aF,sl i9 vs x.aK]) (by rw[ic]at H;exact H vj vn vp vr lp vt vs)
def Qy:G w0 (ob rS vn none::M) F=(vn=.pointer none->G w0 M F):=by rw[iw,rS];simp only[jk]
def xQ:G w0 (ob rS vn (some a)::M) F=∀p,vn=ptr p 0->G w0 (ob je p a::M) F:=by rw[iw,rS];simp only[pM,im,jk]
def nh (p:Nat)(a:az) [dn [ob je p a] L M](H:G w0 (ob rS (ptr p 0) (some a)::M) F):G w0 L F :=
 G.ap (As:=[ob je p a]) (by rw[xQ]at H;exact H p rfl)
def aah (H:G w0 (ob rS (.pointer none) none::M) F):G w0 M F:=by rw[Qy]at H;exact H rfl
def R0:G w0 (ob qf v jobs::M) F=∀l:List (rq×List co),l.map (·.2)=jobs->G w0 (sl jj v (l.map (·.1))::ob (eQ NA) () l::M) F:=by
 rw[iw,qf]
 simp only[pM,im,jk]
def FK (v:Value)(l:List (rq×List co)) [dn [sl jj v (l.map (·.1)),ob (eQ NA) () l] L M](H:G w0 (ob qf v (l.map (·.2))::M) F):G w0 L F :=
 G.ap (As:=[sl jj v (l.map (·.1)),ob (eQ NA) () l]) (by rw[R0]at H;exact H l rfl)
def s9 {l:List Ta}:G w0 (ob ox v l::M) F=∀q:List wu,(q.map (·.2.1)=l/\∀p∈q,M9 p)->G w0 (sl mm v (q.map (·.1))::ob (eQ kB) () q::M) F:=by
 rw[iw,ox]
 simp only[pM,im,jk]
theorem ahV {l:List (rq×List co)}{k:Nat}{q:rq×List co}(h:l[k]? = some q):Rd w0 (ob (eQ NA) () l::M) q.1.v fx 5 q.2:=⟨rfl,λw H=>by
 have e:G w0 (ob (eQ NA) () l::M) (λw=>ki fx w q.1.v q.2):=by
  rw[nH h]
  exact λw H=>St.cC H
 exact e w H⟩
def mr (ho:m7 x)[i:ae L kP b x C](hK:G w0 (C (ob kP b (cw x))) (K (.tuple #[]))):G w0 L (ac 76 [ptr b 0] K):=by
 refine i.bi (λM hK=>?_) hK
 refine CR ?_
 unfold sE
 obtain⟨U,h2,T,Z⟩:=ho
 obtain⟨k,Y⟩:=zaK U
 unfold cw at hK
 rw[ic]
 intro d w D t A v o
 refine G.aJ qf d ?_
 rw[R0]
 intro l P
 have S:(l.map (·.1)).length=x.aw.length:=by grind
 have Q:x.aI.toNat=k:=by omega
 rw[Q]at hK
 by_cases hc:k=x.aw.length
 ·have H:x.aw[k]? = none:=by rw[hc];simp
  rw[H]at hK
  have O:(x.aI=(((l.map (·.1)).length:Nat):Int))=True:=by grind
  refine bx O ?_
  refine FK d l ?_
  rw[P]
  refine G.aJ rS w ?_
  refine G.drop ?_
  refine aah ?_
  refine dj b { x with aP:=0,bD:=false,aj:=none,B:=6 } d (.pointer none) D t A v o ?_
  exact hK
 ·have I:k<x.aw.length:=by omega
  have N:k<l.length:=by grind
  have H:x.aw[k]? = some x.aw[k]:=dg I
  have R:(l[k]).2=x.aw[k]:=by grind
  rw[H]at hK
  simp only at hK
  have O:(x.aI=(((l.map (·.1)).length:Nat):Int))=False:=by grind
  refine bx O ?_
  refine G.cond (λm=>?_) (λm=>?_)
  rotate_left
  ·rw[zn (by rw[m];decide)]at hK
   have e:iW (l.map (·.1)) k l[k].1:=⟨by rw[zax,dg N];rfl⟩
   have hx:JD x.aI k:=⟨Y⟩
   refine bi ?_
   refine G.aJ (eQ NA) () ?_
   have r:=λM:List bg=>ahV (w0:=w0) (M:=M) (dg N)
   have r2:=r (sl jj d (l.map (·.1))::own b [i64 x.me,i64 x.s.a0,i64 x.s.F,i64 x.s.wide,i64 x.s.aB,u64 x.s.start,i64 x.s.aR,i64 x.s.bP,i64 x.s.fuel,d,i64 x.aI,i64 x.B,.bool x.aE,v,i64 x.aM,i64 x.a7,w,i64 0,.bool false,D,t,ptr A 0,o,i64 x.aY,u64 x.cl,.bool x.c2,i64 x.aS]::ob rS w x.aj::ob ox D x.aA::sl lQ t x.aX::ob (pf dz) A x.aC::sl dz v x.aF::sl i9 o x.aK::M)
   refine RQ (s:=x.s) (p:=l[k].2) (bj (a:=l[k].1.a) (n:=l[k].1.n) (c:=l[k].1.c)) (by rw[R];exact T _ (zae I)) λp=>?_
   rw[R]
   refine bi ?_
   refine FK d l ?_
   rw[P]
   refine G.aJ rS w ?_
   refine G.drop ?_
   refine nh p (om x.me x.s x.aw[k]) ?_
   refine dj b { x with aP:=0,bD:=false,aj:=some (om x.me x.s x.aw[k]),B:=1 } d (ptr p 0) D t A v o ?_
   exact hK
  ·rw[zp m]at hK
   refine bi ?_
   refine G.a3 bq ?_
   refine G.bN (σ:=Nat×Value) (λz=>z.2) (λz=>i64 z.1) (λz=>sl bq z.2 ((x.aF.take z.1).map (·.J))::sl jj d (l.map (·.1))::ob (eQ NA) () l::own b [i64 x.me,i64 x.s.a0,i64 x.s.F,i64 x.s.wide,i64 x.s.aB,u64 x.s.start,i64 x.s.aR,i64 x.s.bP,i64 x.s.fuel,d,i64 x.aI,i64 x.B,.bool x.aE,v,i64 x.aM,i64 x.a7,w,i64 0,.bool false,D,t,ptr A 0,o,i64 x.aY,u64 x.cl,.bool x.c2,i64 x.aS]::ob rS w x.aj::ob ox D x.aA::sl lQ t x.aX::ob (pf dz) A x.aC::sl dz v x.aF::sl i9 o x.aK::M) (λz=>z.1<=x.aF.length/\ax z.2 [z.2]) (λz=>x.aF.length-z.1) (0,.slice none 0 0) rfl rfl zs ⟨zag _,bj⟩ ?_
   rintro⟨j,u⟩ ⟨hj,X⟩ J hJ
   simp only at hj X hJ ⊢
   refine ar ?_
   refine G.cond (λh=>?_) (λh=>?_)
   ·have f:j<x.aF.length:=by simpa using h
    have e:=dm f
    have g:((x.aF.take j).map (·.J)).length=j:=by simp;omega
    refine bi ?_
    refine G.new λq=>bi ?_
    refine G.build bq [x.aF[j].J] rfl zd rfl λy hy=>bi ?_
    refine G.append (E:=bq) (xs:=(x.aF.take j).map λz:rM=>z.J) (ys:=[x.aF[j].J]) (by simp only[g,gg];omega) (by simp only[g,gg,maxLen];omega) λW V=>bi ?_
    rw[fm zo]
    have H:=hJ (j+1,W) ⟨f,V⟩ (by simp only;omega)
    simp only[zaz f,zal,zaj,zaL]at H
    exact H.sub
   ·have f:j=x.aF.length:=by grind
    subst f
    rw[zbH]
    refine bi ?_
    refine NG (s:=x.s) (bs:=x.aF.map λz:rM=>z.J) (by rw[zaq];omega) λp=>bi ?_
    refine FK d l ?_
    rw[P]
    refine G.aJ rS w ?_
    refine G.drop ?_
    refine nh p (lm x.me x.s (x.aF.map (·.J))) ?_
    refine dj b { x with aP:=0,bD:=false,aj:=some (lm x.me x.s (x.aF.map (·.J))),B:=1 } d (ptr p 0) D t A v o ?_
    exact hK.sub
end
end Go.Proofs.YtoealglbimbbmaaGreatDoor.S
namespace Go.Proofs.YtoealglbimbbmaaGreatDoor.S
open Go Go.Proofs
section
variable {w0:bz}{L M:List bg}{K:KV}{F:World->Prop}{C:bg->List bg}{b lp p:Nat}{x:bm}{v vj vn vp vr vt vs:Value}{a:az}{draw:Int}
def lj (a:m7 { x with aI:=x.aI+1,aF:=[] })(m:x.aw.length<=1000000)[i:ae L kP b x C](hK:G w0 (C (ob kP b (kW x))) (K (.tuple #[]))):G w0 L (ac 73 [ptr b 0] K):=by
 refine i.bi (λM hK=>?_) hK
 refine yP ?_
 unfold oY
 have k:=a.hi
 have c:=a.lo
 simp only at k c
 rw[ic]
 intro f h g e j l d
 refine bi ?_
 rw[jL (n:=x.aI+1) zo zo]
 refine G.a3 dz ?_
 refine dj b { x with aI:=x.aI+1,aE:=false,aF:=[],aM:=0,a7:=0 } f h g e j (.slice none 0 0) d ?_
 refine mr (x:={ x with aI:=x.aI+1,aE:=false,aF:=[],aM:=0,a7:=0 }) ⟨a.lo,a.hi,a.cg,zs⟩ (bi ?_)
 exact hK.sub
def EU (p:m7 x)(hd:0<=draw)(A:draw<=255)[i:ae L kP b x C](hK:G w0 (C (ob kP b (lN x draw))) (K (.tuple #[]))):G w0 L (ac 112 [ptr b 0,.int .u8 draw] K):=by
 refine i.bi (λM hK=>?_) hK
 refine Dm ?_
 unfold sP
 rw[ic]
 intro d f o m g e j
 have s:(if(8:Int)<x.a7 then 8 else x.a7)=HE x.a7:=rfl
 have v:HE x.a7<=8:=by grind
 refine ca s ?_
 refine G.bN (λk:Nat=>i64 (rr k)) (λk:Nat=>i64 k) (λk=>own b (x.cells d f o m g e j)::ob qf d x.aw::ob rS f x.aj::ob ox o x.aA::sl lQ m x.aX::ob (pf dz) g x.aC::sl dz e x.aF::sl i9 j x.aK::M) (λk=>k<=(HE x.a7).toNat) (λk=>(HE x.a7).toNat-k) 0 rfl rfl rfl zs ?_
 intro k w J u
 have z:=Vz k
 refine ar ?_
 refine G.cond (λh=>?_) (λh=>?_)
 ·have c:k<(HE x.a7).toNat:=by grind
  have t:=u (k+1) c zo
  refine ar ?_
  rw[jL (n:=2*rr k) zo zo,fm zo]
  exact t
 ·have c:k=(HE x.a7).toNat:=by grind
  have y:YB (rr k+1):=⟨zo⟩
  have r:IntKind.wrap .i64 (rr k+1)=rr k+1:=jL zo zo
  unfold lN at hK
  have a:draw.tmod (rr k+1)=nK x.a7 draw:=by rw[c]
  have q:IntKind.wrap .i64 draw=draw:=jL zo zo
  by_cases l:nK x.a7 draw=0
  ·rw[zp l]at hK
   rw[l]at a
   refine bx (an q (an r a)) ?_
   refine dj b { x with aS:=0,B:=3 } d f o m g e j ?_
   refine mr (x:={ x with aS:=0,B:=3 }) ⟨p.lo,p.hi,p.cg,p.aF⟩ (bi ?_)
   exact hK
  ·rw[zn l]at hK
   refine bx (an q (an r (an a l))) ?_
   refine dj b { x with aS:=nK x.a7 draw,B:=3 } d f o m g e j ?_
   exact hK
def PZ (m:m7 x)(o:x.B=3->1<=x.aS/\x.aS<=100)[i:ae L kP b x C](hK:G w0 (C (ob kP b (gK x))) (K (.tuple #[]))):G w0 L (ac 44 [ptr b 0] K):=by
 refine i.bi (λM hK=>?_) hK
 refine CN ?_
 unfold r9
 rw[ic]
 intro f j h d k g c
 unfold gK at hK
 by_cases a:x.B=3
 ·rw[zp a]at hK
  have o:=o a
  have e:IntKind.wrap .i64 (x.aS-1)=x.aS-1:=jL zo zo
  by_cases n:x.aS=1
  ·rw[zp n]at hK
   have l:(x.aS-1=0)=True:=eq_true zo
   refine bx (an (eq_true a) (an e l)) ?_
   refine dj b { x with aS:=x.aS-1 } f j h d k g c ?_
   refine mr (x:={ x with aS:=x.aS-1 }) ⟨m.lo,m.hi,m.cg,m.aF⟩ ?_
   rw[show x.aS-1=0 by omega]
   exact hK
  ·rw[zn n,ic]at hK
   have l:(x.aS-1=0)=False:=eq_false zo
   refine bx (an (eq_true a) (an e l)) ?_
   exact hK f j h d k g c
 ·rw[zn a,ic]at hK
  refine bx a ?_
  exact hK f j h d k g c
def Qv {a:ii}(u:m7 x)(hd:0<=draw)(t:draw<=255)[i:ae L kP b x C](hK:G w0 (C (ob kP b (pC x a draw))) (K (.tuple #[]))):G w0 L (ac 81 [ptr b 0,.agg (ii.cells a).toArray,.int .u8 draw] K):=by
 refine i.bi (λM hK=>?_) hK
 refine C7 ?_
 unfold sG
 refine G.box λq=>?_
 rw[jc]
 refine G.drew ?_
 unfold pC at hK
 have c:G w0 (ob kP b (lN x draw)::M) (K (.tuple #[]))->G w0 (ob kP b x::own q (ii.cells a)::M) (ac 112 [ptr b 0,.int .u8 draw] (λs=>K (.tuple #[]))):=λh=>EU (x:=x) u hd t h.sub
 refine mK ?_
 by_cases e:a.aV=0
 ·by_cases f:a.word=0
  ·rw[zn (λh=>h.2.1 f)]at hK
   refine bx (an (eq_true e) (eq_true f)) ?_
   exact c hK
  ·rw[ic]
   intro k m r p n l o
   cases j:x.c2
   ·rw[zp ⟨e,f,.inl j⟩,ic]at hK
    have d:(!x.c2)=true:=by rw[j];rfl
    refine bx (an (eq_true e) (an f d)) ?_
    exact(hK k m r p n l o).sub
   ·have d:(!x.c2)=false:=by rw[j];rfl
    by_cases g:a.word=x.cl
    ·rw[zp ⟨e,f,.inr g⟩,ic]at hK
     refine bx (an (eq_true e) (an f (an d (eq_true g)))) ?_
     exact(hK k m r p n l o).sub
    ·rw[zn (λh=>by rcases h.2.2 with h|h;rw[j]at h;cases h;exact g h)]at hK
     refine bx (an (eq_true e) (an f (an d g))) ?_
     refine dj b x k m r p n l o ?_
     exact c hK
 ·rw[zn (λh=>e h.1)]at hK
  refine bx e ?_
  exact c hK
def Ht (t:m7 x)(hj:x.aI<x.aw.length)(R:x.aw.length<=1000000)(S:x.aK.length<=10)(T:x.aC.length<=90000)[i:ae L kP b x C](hK:G w0 (C (ob kP b (lu x))) (K (.tuple #[]))):G w0 L (ac 120 [ptr b 0] K):=by
 refine i.bi (λM hK=>?_) hK
 refine E8 ?_
 unfold uB
 have j:m7 { x with aI:=x.aI+1,aF:=[] }:=⟨by have:=t.lo;show 0<=x.aI+1;omega,by show x.aI+1<=x.aw.length;omega,t.cg,zs⟩
 have c:∀d f l k h m a,G w0 (own b (x.cells d f l k h m a)::sl i9 a (jb x)::ob qf d x.aw::ob rS f x.aj::ob ox l x.aA::sl lQ k x.aX::ob (pf dz) h x.aC::sl dz m x.aF::M)
   (aj (.bool (decide (((jb x).length:Int)<x.s.aB))) (K (.tuple #[])) (be (ad (ptr b 21) λw=>ad (ptr b 22) λv=>ac 154 [w,v] λn=>andP (andP (ab) (andP (ab) (ab))) (fu n λA=>ap .eql A (i64 0) λD=>aj D (ac 73 [ptr b 0] λP=>K (.tuple #[])) (iz [.bool false,.slice none 0 0,i64 0,i64 0] [(0,1,.bool true),(1,1,n)] λz=>fh 4 (ptr b 12) z λ_=>ac 76 [ptr b 0] λF=>K (.tuple #[])))))):=by
  intro d f l k h m a
  unfold lu at hK
  have B:(jb x).length<=11:=by
   show(if(x.aK.length:Int)=x.me then x.aK++[0]else x.aK).length<=11
   split
   ·simp only[LE,gg];omega
   ·omega
  generalize jb x=ss at hK B
  by_cases o:((ss.length:Nat):Int)<x.s.aB
  ·rw[zp o]at hK
   refine bx (eq_true o) ?_
   refine dj b { x with aK:=ss } d f l k h m a ?_
   exact hK
  ·rw[zn o]at hK
   refine bx o ?_
   refine HK (xs:=x.aC) (ss:=ss) zo zo λu J=>?_
   have O:=zb0 (λr:rM=>iU ss r.I) x.aC
   by_cases p:x.aC.filter (λr=>iU ss r.I)=[]
   ·rw[zp p]at hK
    rw[p]
    refine bx (an @List.length_nil.{0} @Int.cast_ofNat_Int) ?_
    refine dj b { x with aK:=ss,aC:=x.aC.filter λr=>!iU ss r.I } d f l k h m a ?_
    refine lj (x:={ x with aK:=ss,aC:=x.aC.filter λr=>!iU ss r.I }) ⟨j.lo,j.hi,j.cg,j.aF⟩ R (bi ?_)
    exact hK.sub
   ·rw[zn p]at hK
    have H:¬(((x.aC.filter (λr=>iU ss r.I)).length:Nat):Int)=0:=by
     intro g
     exact p (zbU.1 zo)
    refine bx H ?_
    refine dj b { x with aK:=ss,aC:=x.aC.filter (λr=>!iU ss r.I),aE:=true,aF:=x.aC.filter (λr=>iU ss r.I),aM:=0,a7:=0 } d f l k h u a ?_
    refine mr (x:={ x with aK:=ss,aC:=x.aC.filter (λr=>!iU ss r.I),aE:=true,aF:=x.aC.filter (λr=>iU ss r.I),aM:=0,a7:=0 }) ⟨t.lo,t.hi,t.cg,by show(x.aC.filter _).length<=_;omega⟩ (bi ?_)
    exact hK.sub
 rw[ic]
 intro d f l k h m N
 by_cases q:(x.aK.length:Int)=x.me
 ·have e:jb x=x.aK++[0]:=zp q
  rw[e]at c
  refine bx (eq_true q) ?_
  refine G.build i9 [0] rfl zd rfl λy Q=>bi ?_
  refine G.append (E:=i9) (xs:=x.aK) (ys:=[0]) (by simp only[gg];omega) (by simp only[gg,maxLen];omega) λu J=>bi ?_
  exact(c d f l k h m u).sub
 ·have e:jb x=x.aK:=zn q
  rw[e]at c
  refine bx q ?_
  exact(c d f l k h m N).sub
def Cp {since:Int}(a:m7 x)(hj:x.aI<x.aw.length)(m:x.aw.length<=1000000)(o:x.aK.length<=4)(n:x.aC.length<=90000)[i:ae L kP b x C](hK:G w0 (C (ob kP b (tC x since))) (K (.tuple #[]))):G w0 L (ac 82 [ptr b 0,u64 since] K):=by
 refine i.bi (λM hK=>?_) hK
 refine BW ?_
 unfold re
 rw[ic]
 intro d g f c h e j
 refine bi ?_
 refine G.build i9 [since] rfl zd rfl λy l=>bi ?_
 refine G.append (E:=i9) (xs:=x.aK) (ys:=[since]) (by simp only[gg];omega) (by simp only[gg,maxLen];omega) λu k=>bi ?_
 refine dj b { x with aK:=x.aK++[since] } d g f c h e u ?_
 refine Ht (x:={ x with aK:=x.aK++[since] }) ⟨a.lo,a.hi,a.cg,a.aF⟩ hj m (by simp only[LE,gg];omega) n (bi ?_)
 exact hK.sub
def Ra (a:m7 x)(hj:x.aI<x.aw.length)(n:x.aw.length<=1000000)(o:x.aC.length<=90000)[i:ae L kP b x C](hK:G w0 (C (ob kP b (yX x))) (K (.tuple #[]))):G w0 L (ac 119 [ptr b 0] K):=by
 refine i.bi (λM hK=>?_) hK
 refine DP ?_
 unfold vd
 unfold yX at hK
 rw[ic]
 intro f k j e l h m
 refine bi ?_
 refine JU (xs:=x.aC) ?_
 by_cases c:x.aC=[]
 ·rw[zp c]at hK
  have d:(((x.aC.length:Nat):Int)=0)=True:=by rw[c];simp
  refine bx d ?_
  refine dj b x f k j e l h m ?_
  refine lj (x:=x) ⟨by have:=a.lo;show 0<=x.aI+1;omega,by show x.aI+1<=x.aw.length;omega,a.cg,zs⟩ n (bi ?_)
  exact hK
 ·rw[zn c]at hK
  have d:¬((x.aC.length:Nat):Int)=0:=by
   intro g
   exact c (zbU.1 zo)
  refine bx d ?_
  refine G.a3 i9 ?_
  refine dj b { x with B:=5,aK:=[] } f k j e l h (.slice none 0 0) ?_
  refine Ht (x:={ x with B:=5,aK:=[] }) ⟨a.lo,a.hi,a.cg,a.aF⟩ hj n zs o (bi ?_)
  exact hK.sub
def PO {e:Int}(w:m7 x)(hj:x.aI<x.aw.length)(v:x.aw.length<=1000000)(E:x.aC.length+x.aF.length<=90000)[i:ae L kP b x C](hK:G w0 (C (ob kP b (Br x e))) (K (.tuple #[]))):G w0 L (ac 113 [ptr b 0,i64 e] K):=by
 refine i.bi (λM hK=>?_) hK
 refine CO ?_
 unfold sL
 unfold Br at hK
 have c:∀z:bm,z.aI=x.aI->z.aw=x.aw->m7 { z with aI:=z.aI+1,aF:=[] }:=λz D s=>⟨by have:=w.lo;show 0<=z.aI+1;omega,by show z.aI+1<=z.aw.length;rw[s];omega,by show ∀p∈z.aw,_;rw[s];exact w.cg,zs⟩
 rw[ic]
 intro d g o n j f m
 by_cases l:e=4
 ·rw[zp l]at hK
  refine bx (eq_true l) ?_
  refine G.a8 (λk:Nat=>i64 k) (λk=>own b (x.cells d g o n j f m)::ob qf d x.aw::ob rS g x.aj::ob ox o x.aA::sl lQ n x.aX::ob (pf dz) j (x.aC++x.aF.take k)::sl dz f x.aF::sl i9 m x.aK::M) (λk=>k<=x.aF.length) (λk=>x.aF.length-k) 0 rfl zs zs ?_
  intro k B J u
  refine ar ?_
  refine G.cond (λh=>?_) (λh=>?_)
  ·have a:k<x.aF.length:=by simpa using h
   have e:=dm a
   refine bi ?_
   refine G.new λq=>bi ?_
   refine G.build bq [x.aF[k].J] rfl zd rfl λy A=>bi ?_
   refine yU (xs:=x.aC++x.aF.take k) (bs:=[x.aF[k].J]) (t:=x.aF[k].I) (by simp only[LE,zaC,gg];omega) (bi ?_)
   rw[fm zo]
   have r:=u (k+1) a zo
   rw[zaz a,<-zaG]at r
   simp only[zaj,zaL,show(⟨x.aF[k].J,x.aF[k].I⟩:rM)=x.aF[k]from rfl]
   exact r.sub
  ·have a:k=x.aF.length:=by grind
   subst a
   rw[zbH]
   refine bi ?_
   refine dj b { x with aC:=x.aC++x.aF } d g o n j f m ?_
   refine lj (x:={ x with aC:=x.aC++x.aF }) (c _ rfl rfl) v (bi ?_)
   exact hK
 ·rw[zn l]at hK
  refine bx l ?_
  refine dj b x d g o n j f m ?_
  refine lj (x:=x) (c _ rfl rfl) v (bi ?_)
  exact hK
def EV [i:ae L kP b x C](hK:G w0 L (K (i64 x.B))):G w0 L (ac 63 [ptr b 0] K):=by
 refine i.ro (λM hK=>?_) hK
 refine Da ?_
 unfold sK
 rw[ic]at *
 intro d g f c h e a
 have hK:=hK d g f c h e a
 refine ar ?_
 exact hK
def L5 (k:x.aX.length<=1000000)[i:ae L kP b x C](hK:∀u,ax u [u]->G w0 (sl lQ u x.aX::L) (K u)):G w0 L (ac 58 [ptr b 0] K):=by
 refine i.cb (λM hK=>?_) hK
 refine An ?_
 unfold ql
 rw[ic]
 intro e h g c j f a
 refine ar ?_
 refine pg (xs:=x.aX) k λu d=>?_
 refine dj b x e h g c j f a ?_
 exact(hK u d).sub
def Rf {s f:Int}(R:m7 x)(H:∀a,x.aj=some a->a.rd.length<=1000)[i:ae L kP b x C](hK:G w0 (C (ob kP b (iO x s f))) (K (.tuple #[]))):G w0 L (ac 46 [ptr b 0,i64 s,u64 f] K):=by
 refine i.bi (λM hK=>?_) hK
 refine Eg ?_
 unfold ux
 unfold iO at hK
 rw[ic]
 intro j E q o m l n
 cases t:x.aj with
 |none =>
  simp only[t]at hK
  rw[ic]at hK
  have hK:=hK j E q o m l n
  rw[t]at hK
  refine G.aJ rS E ?_
  rw[Qy]
  intro e
  subst e
  have hK:G w0 (ob rS (.pointer none) none::own b (x.cells j (.pointer none) q o m l n)::ob qf j x.aw::ob ox q x.aA::sl lQ o x.aX::ob (pf dz) m x.aC::sl dz l x.aF::sl i9 n x.aK::M) (K (.tuple #[])):=hK.sub
  rw[Qy]at hK
  refine bi ?_
  exact hK rfl
 |some a =>
  have H:=H a t
  simp only[t]at hK
  refine G.aJ rS E ?_
  rw[xQ]
  intro p e
  subst e
  have d:G w0 (ob kP b x::M) (K (.tuple #[]))->G w0 (ob je p a::own b (x.cells j (ptr p 0) q o m l n)::ob qf j x.aw::ob ox q x.aA::sl lQ o x.aX::ob (pf dz) m x.aC::sl dz l x.aF::sl i9 n x.aK::M) (K (.tuple #[]))/\True:=λh=>⟨by
   refine nh p a ?_
   rw[<-t]
   refine dj b x j (ptr p 0) q o m l n ?_
   exact h.sub,trivial⟩
  refine bi ?_
  refine OE (x:=a) zo λu O=>bi ?_
  refine G.a8 (λk:Nat=>i64 k) (λk=>sl lh u a.rd::ob je p a::own b (x.cells j (ptr p 0) q o m l n)::ob qf j x.aw::ob ox q x.aA::sl lQ o x.aX::ob (pf dz) m x.aC::sl dz l x.aF::sl i9 n x.aK::M) (λk=>k<=a.rd.length/\MZ a.rd s f=MZ (a.rd.drop k) s f) (λk=>a.rd.length-k) 0 rfl rfl zs ?_
  rintro k ⟨Q,w⟩ J hJ
  refine ar ?_
  refine G.cond (λh=>?_) (λh=>?_)
  ·have r:k<a.rd.length:=by grind
   have e:=dm r
   rw[zav r,show MZ (a.rd[k]::a.rd.drop (k+1)) s f=((decide (a.rd[k].N=s)&&!decide (a.rd[k].D=f))||MZ (a.rd.drop (k+1)) s f)from rfl]at w
   have c:(decide (a.rd[k].N=s)&&!decide (a.rd[k].D=f))=false->_:=λg=>hJ (k+1) ⟨r,by rw[w,g,zba]⟩ zo
   refine mK ?_
   refine ar ?_
   refine G.new λP=>?_
   by_cases v:a.rd[k].N=s
   ·by_cases y:a.rd[k].D=f
    ·have c:=c (by simp[y])
     refine bx (an (eq_true v) (eq_true y)) ?_
     rw[fm zo]
     exact c.sub
    ·rw[w,decide_eq_true v,decide_eq_false y]at hK
     simp only[zbA,zbY,zb6,if_true]at hK
     by_cases z:x.B=4
     ·rw[zp z]at hK
      refine bx (an (eq_true v) (an y (eq_true z))) ?_
      refine nh p a ?_
      rw[<-t]
      refine dj b x j (ptr p 0) q o m l n ?_
      refine mr (x:=x) R (bi ?_)
      exact hK.sub
     ·rw[zn z]at hK
      by_cases A:x.B=1
      ·refine bx (an (eq_true v) (an y (an z (eq_true A)))) ?_
       refine HR (x:=a) ?_
       cases F:(!decide (a.B=8)&&a.aO)
       ·rw[zn (by rw[F];simp)]at hK
        refine bi ?_
        exact((d hK).1).sub
       ·rw[zp ⟨A,F⟩]at hK
        refine bi ?_
        refine nh p a ?_
        rw[<-t]
        refine dj b { x with bD:=true } j (ptr p 0) q o m l n ?_
        rw[<-t]at hK
        exact hK.sub
      ·rw[zn (λg=>A g.1)]at hK
       refine bx (an (eq_true v) (an y (an z A))) ?_
       exact((d hK).1).sub
   ·have c:=c (by simp[v])
    refine bx v ?_
    rw[fm zo]
    exact c.sub
  ·have r:k=a.rd.length:=by grind
   have I:MZ a.rd s f=false:=by grind
   rw[I,zn zd]at hK
   refine ar ?_
   exact((d hK).1).sub
end
end Go.Proofs.YtoealglbimbbmaaGreatDoor.S
namespace Go.Proofs.YtoealglbimbbmaaGreatDoor.S
open Go Go.Proofs
abbrev U5 (a:az):Int:=if a.wr=true then 2 else(if a.B=8 then a.O else 0)
abbrev vJ (x:bm)(a:az)(pick:Int)(r c f:rq)(s:ByteArray):Iv:=⟨x.me,x.aI,x.aM,x.aE,U5 a,(if a.B=8 then a.aV else 0),a.a2,a.I,x.aP,pick,r,c,f,s⟩
structure Nb (a:az):Prop where
 cY:a.v.k.length<=1000
 cells:a.v.l.cells.length<=1000
 aH:a.done=true->a.v.l.aH.length<=1000
 aD:a.aD.length<=100000
 af:a.done=true->KA a.af
def LP.eV {a:az}(h:LP a):Nb a:=⟨h.cY,h.cells,h.aH,h.aD,h.af⟩
def Nb.bc {a:az}(h:Nb a):a.bc.length<=100000:=by
 show(if a.done=true then(match a.run with|none=>a.aD|some _=>a.v.l.aH)else []).length<=_
 split
 ·rename_i b
  have c:=h.aH b
  have d:=h.aD
  grind
 ·simp
def aaR {a:az}:decide (U5 a=2)=a.done:=by grind
def ZI {x:bm}{a:az}{pick:Int}{r c f:rq}{s:ByteArray}(h:Nb a):M9 (vJ x a pick r c f s,j6 a x.aP pick,a.bc) :=
 ⟨rfl,aaR,rfl,rfl,h.cY,by show(if a.done=true then a.v.l.cells else []).length<=1000;split;exact h.cells;simp,h.bc⟩
section
variable {w0:bz}{L M:List bg}{K:KV}{F:World->Prop}{C:bg->List bg}{b lp p:Nat}{x:bm}{v vj vn vp vr vt vs:Value}{a:az}{draw pick:Int}
def ac2 {zero r:List Value}{ps:List (Nat×Nat×Value)}(h:xo zero ps=some r):G w0 L (iz zero ps K)=G w0 L (K (.agg r.toArray)):=by
 congr 1
 funext w
 simp[iz,h]
def Hz (ht:Cj w0)(d:Nb a)
  (hK:∀(r c f:rq) (s:ByteArray),B2 a s->G w0 (sl cg r.v a.v.k::sl cg c.v (if a.done then a.v.l.cells else [])::sl bq f.v a.bc::own b (x.cells vj (ptr p 0) vp vr lp vt vs)::ob je p a::M) (K (.agg (Iv.cells (vJ x a pick r c f s)).toArray))) :
  G w0 (own b (x.cells vj (ptr p 0) vp vr lp vt vs)::ob je p a::M) (ac 87 [ptr b 0,i64 pick] K):=by
 refine Em ?_
 unfold uD
 refine G.new λq=>bi ?_
 refine pW (x:=a) (bi ?_)
 refine lU (x:=a) (ar ?_)
 refine qX (x:=a) ?_
 refine G.dN (λk:Int=>i64 k) (λ_=>own q [i64 0,i64 0,i64 0,.bool false,i64 0,i64 0,u64 0,u64 0,i64 0,i64 0,.slice none 0 0,.slice none 0 0,.slice none 0 0,.string ⟨#[]⟩]::own b (x.cells vj (ptr p 0) vp vr lp vt vs)::ob je p a::M) (λk=>k=U5 a) (λk g=>?_) (λJ e=>?_)
 rotate_left
 ·refine G.cond (λh=>?_) (λh=>?_)
  ·exact e 2 (by rw[U5,zp h])
  ·exact e _ (zn (by rw[h];decide)).symm
 subst g
 refine bi ?_
 refine Hf (x:=a) (bi ?_)
 refine vL (x:=a) (bi ?_)
 refine Nr (x:=a) (by have:=d.cY;omega) λu m=>?_
 refine G.cq (v:=u) λr i=>?_
 subst i
 refine bi ?_
 refine ND (x:=a) λc=>bi ?_
 refine Cn (x:=a) (λh=>by have:=d.aH h;omega) (by have:=d.aD;omega) λf=>bi ?_
 refine CJ ht (x:=a) d.af λs j=>bi ?_
 rw[ac2 (r:=Iv.cells (vJ x a pick r c f s)) rfl]
 refine bi ?_
 exact(hK r c f s j).sub
def LH {n:List Ta}(u:Value)(l:List wu)(e:Iv)(t:Ta)(fr:List Int) [dn [sl mm u (l.map (·.1)++[e]),ob (eQ kB) () l,sl cg e.a5.v t.a5,sl cg e.bu.v t.cells,sl bq e.aH.v fr] L M]
  (hl:l.map (·.2.1)=n/\∀p∈l,M9 p) (hk:M9 (e,t,fr)) (H:G w0 (ob ox u (n++[t])::M) F):G w0 L F :=
 G.ap (As:=[sl mm u (l.map (·.1)++[e]),ob (eQ kB) () l,sl cg e.a5.v t.a5,sl cg e.bu.v t.cells,sl bq e.aH.v fr]) (by
  rw[s9]at H
  have h:=H (l++[(e,t,fr)]) ⟨by simp[hl.1],λp hp=>by
   rcases zar.1 hp with hp|hp
   ·exact hl.2 p hp
   ·rw[zaf.1 hp];exact hk⟩
  rw[zal,zaj,zaL,jc,pU,show kB (e,t,fr)=cj (cj (sl cg e.a5.v t.a5) (sl cg e.bu.v t.cells)) (sl bq e.aH.v fr)from rfl,im,im]at h
  show G w0 (sl mm u (l.map (·.1)++[e])::ob (eQ kB) () l::sl cg e.a5.v t.a5::sl cg e.bu.v t.cells::sl bq e.aH.v fr::M) F
  exact h.sub)
def Pt (ht:Cj w0)(hn:x.aj=some a)(S:LP a)(hp:x.aA.length<=1000000)(hr:x.aX.length<=1000000)(hm:x.aC.length+x.aF.length<=80000)(aN:x.aE=false->a.bc.length<=1000)(ho:m7 x)(hj:x.aI<x.aw.length)(hl:x.aw.length<=1000000)(hd:0<=draw)(aL:draw<=255)[i:ae L kP b x C]
  (hK:∀sl_,B2 a sl_->G w0 (C (ob kP b (i7 x a draw pick sl_))) (K (.tuple #[]))):G w0 L (ac 80 [ptr b 0,.int .u8 draw,i64 pick] K):=by
 refine i.cJ (A':=λz:{ s // B2 a s }=>ob kP b (i7 x a draw pick z.1)) (F':=λ_=>K (.tuple #[])) (λM hK=>?_) (λz=>hK z.1 z.2)
 have hK:=λsl_ (h:B2 a sl_)=>hK ⟨sl_,h⟩
 simp only at hK
 refine C8 ?_
 unfold sD
 have m:=S.e7
 rw[ic]
 intro t vn vp D y w u
 refine G.aJ rS vn ?_
 rw[hn,xQ]
 intro p e
 subst e
 refine bi ?_
 refine G.ap (As:=[own b (x.cells t (ptr p 0) vp D y w u),ob je p a]) ?_
 simp only[Fn,GT]
 refine Hz ht (x:=x) (pick:=pick) S.eV λr c f s Q=>?_
 refine G.aJ ox vp ?_
 rw[s9]
 intro l P
 have q:(l.map (·.1)).length=x.aA.length:=by grind
 have H:=ZI (x:=x) (pick:=pick) (r:=r) (c:=c) (f:=f) (s:=s) S.eV
 refine bi ?_
 refine G.build mm [vJ x a pick r c f s] rfl zd rfl λu6 h6=>bi ?_
 refine G.append (E:=mm) (xs:=l.map (λz:wu=>z.1)) (ys:=[vJ x a pick r c f s]) (by simp only[q,gg];omega) (by simp only[q,gg,maxLen];omega) λo h5=>bi ?_
 refine lU (x:=a) ?_
 rw[zp m]
 have j:∀z:bm,z.aI=x.aI->z.aw=x.aw->z.aF=x.aF->m7 z:=λz U W e3=>⟨by rw[U];exact ho.lo,by rw[U,W];exact ho.hi,by rw[W];exact ho.cg,by rw[e3];exact ho.aF⟩
 have d:∀(z:bm) (J:World->Prop),z.aw=x.aw->z.aj=x.aj->z.aA=x.aA++[j6 a x.aP pick]->z.aX=x.aX->z.aC=x.aC->z.aF=x.aF->z.aK=x.aK->G w0 (ob kP b z::M) J ->
   G w0 (own b (z.cells t (ptr p 0) o D y w u)::sl mm o (l.map (·.1)++[vJ x a pick r c f s])::ob (eQ kB) () l::sl cg r.v a.v.k::sl cg c.v (if a.done then a.v.l.cells else [])::sl bq f.v a.bc::ob je p a::ob qf t x.aw::sl lQ D x.aX::ob (pf dz) y x.aC::sl dz w x.aF::sl i9 u x.aK::M) J:=λz J U W e3 e4 e5 e6 e7 h=>by
  refine LH o l (vJ x a pick r c f s) (j6 a x.aP pick) a.bc P H ?_
  refine nh p a ?_
  rw[<-hn,<-U,<-W,<-e3,<-e4,<-e5,<-e6,<-e7]
  refine dj b z t (ptr p 0) o D y w u ?_
  exact h
 unfold i7 at hK
 by_cases V:a.O=5
 ·simp only[zp V]at hK
  refine bx (eq_true V) ?_
  refine wT (x:=a) ?_
  rw[zp m]
  by_cases N:0<=a.aY/\a.aY<x.s.aB
  ·simp only[zp N]at hK
   refine mK ?_
   repeat' (first|(with_reducible refine G.aU ?_)|(with_reducible refine G.bk ?_)|(with_reducible refine G.drew ?_)|(simp (maxSteps:=2000000) only[↓RG,RP,RB,zac,Int.reduceEq,Int.reduceLT,Int.reduceLE,Nat.reduceEqDiff,eq_true N.1]))
   refine wT (x:=a) ?_
   rw[zp m]
   repeat' (first|(with_reducible refine G.aU ?_)|(with_reducible refine G.bk ?_)|(with_reducible refine G.drew ?_)|(simp (maxSteps:=2000000) only[↓RG,RP,RB,zac,Int.reduceEq,Int.reduceLT,Int.reduceLE,Nat.reduceEqDiff,eq_true N.2]))
   refine wT (x:=a) ?_
   rw[zp m]
   refine bi ?_
   exact(d { x with aA:=x.aA++[j6 a x.aP pick],aM:=IntKind.wrap .i64 (x.aM+1),a7:=IntKind.wrap .i64 (x.a7+1),B:=2,aY:=a.aY,c2:=false } _ rfl rfl rfl rfl rfl rfl rfl (hK s Q)).sub
  ·simp only[zn N]at hK
   have R:G w0 (own b (bm.cells { x with aA:=x.aA++[j6 a x.aP pick],aM:=IntKind.wrap .i64 (x.aM+1),a7:=IntKind.wrap .i64 (x.a7+1) } t (ptr p 0) o D y w u)::sl mm o (l.map (·.1)++[vJ x a pick r c f s])::ob (eQ kB) () l::sl cg r.v a.v.k::sl cg c.v (if a.done then a.v.l.cells else [])::sl bq f.v a.bc::ob je p a::ob qf t x.aw::sl lQ D x.aX::ob (pf dz) y x.aC::sl dz w x.aF::sl i9 u x.aK::M)
     (ac 112 [ptr b 0,.int .u8 draw] (λaG=>K (.tuple #[]))):=by
    refine d { x with aA:=x.aA++[j6 a x.aP pick],aM:=IntKind.wrap .i64 (x.aM+1),a7:=IntKind.wrap .i64 (x.a7+1) } _ rfl rfl rfl rfl rfl rfl rfl ?_
    refine EU (x:={ x with aA:=x.aA++[j6 a x.aP pick],aM:=IntKind.wrap .i64 (x.aM+1),a7:=IntKind.wrap .i64 (x.a7+1) }) (j _ rfl rfl rfl) hd aL ?_
    exact hK s Q
   refine mK ?_
   by_cases A:0<=a.aY
   ·have Y:¬a.aY<x.s.aB:=λh=>N ⟨A,h⟩
    refine bx (eq_true A) ?_
    refine wT (x:=a) ?_
    rw[zp m]
    refine bx Y ?_
    exact R.sub
   ·refine bx A ?_
    exact R.sub
 ·simp only[zn V]at hK
  refine bx V ?_
  refine lU (x:=a) ?_
  rw[zp m]
  by_cases T:a.O=3
  ·simp only[zp T]at hK
   refine bx (eq_true T) ?_
   refine G.cond (λX=>?_) (λX=>?_)
   rotate_left
   ·simp only[zn (show ¬x.bD=true by rw[X];decide)]at hK
    refine bi ?_
    exact(d { x with aA:=x.aA++[j6 a x.aP pick],aM:=IntKind.wrap .i64 (x.aM+1),B:=4 } _ rfl rfl rfl rfl rfl rfl rfl (hK s Q)).sub
   ·simp only[zp X]at hK
    refine G.sub (d { x with aA:=x.aA++[j6 a x.aP pick],aM:=IntKind.wrap .i64 (x.aM+1) } _ rfl rfl rfl rfl rfl rfl rfl ?_)
    refine mr (x:={ x with aA:=x.aA++[j6 a x.aP pick],aM:=IntKind.wrap .i64 (x.aM+1) }) (j _ rfl rfl rfl) (bi ?_)
    exact hK s Q
  simp only[zn T]at hK
  refine bx T ?_
  refine G.cond (λg=>?_) (λg=>?_)
  ·simp only[zp g]at hK
   refine lU (x:=a) ?_
   rw[zp m]
   refine G.sub (d { x with aA:=x.aA++[j6 a x.aP pick],aM:=IntKind.wrap .i64 (x.aM+1) } _ rfl rfl rfl rfl rfl rfl rfl ?_)
   refine PO (x:={ x with aA:=x.aA++[j6 a x.aP pick],aM:=IntKind.wrap .i64 (x.aM+1) }) (j _ rfl rfl rfl) hj hl (by show x.aC.length+x.aF.length<=_;omega) (bi ?_)
   exact hK s Q
  ·simp only[zn (show ¬x.aE=true by rw[g];decide)]at hK
   have al:=aN g
   refine bi ?_
   refine lU (x:=a) ?_
   rw[zp m]
   refine bi ?_
   refine Hf (x:=a) ?_
   rw[zp m]
   refine bi ?_
   refine CJ ht (x:=a) S.af λF Z=>bi ?_
   refine vL (x:=a) (bi ?_)
   refine G.build lQ [⟨a.O,a.aV,F,a.I⟩] rfl zd rfl λu7 h7=>bi ?_
   refine G.append (E:=lQ) (xs:=x.aX) (ys:=[⟨a.O,a.aV,F,a.I⟩]) (by simp only[gg];omega) (by simp only[gg,maxLen];omega) λu8 am=>bi ?_
   refine vL (x:=a) (bi ?_)
   refine Cn (x:=a) (λh=>by have:=S.aH h;omega) (by have:=S.aD;omega) λf2=>bi ?_
   refine yU (xs:=x.aC) (bs:=a.bc) zo (bi ?_)
   refine LH o l (vJ x a pick r c f s) (j6 a x.aP pick) a.bc P H ?_
   refine nh p a ?_
   rw[<-hn]
   refine dj b { x with aA:=x.aA++[j6 a x.aP pick],aM:=IntKind.wrap .i64 (x.aM+1),aX:=x.aX++[⟨a.O,a.aV,F,a.I⟩],aC:=x.aC++a.bc.map λn=>⟨n,a.I⟩ } t (ptr p 0) o u8 y w u ?_
   refine Ra (x:={ x with aA:=x.aA++[j6 a x.aP pick],aM:=IntKind.wrap .i64 (x.aM+1),aX:=x.aX++[⟨a.O,a.aV,F,a.I⟩],aC:=x.aC++a.bc.map λn=>⟨n,a.I⟩ }) (j _ rfl rfl rfl) hj hl (by simp only[LE,zaq];omega) (bi ?_)
   exact(hK F Z).sub
end
section
variable {w0:bz}{L M:List bg}{K:KV}{F:World->Prop}{C:bg->List bg}{b lp p:Nat}{x:bm}{v vj vn vp vr vt vs:Value}{draw pick:Int}
def RE (t:x.B=5->x.aK.length<=4)(s:x.B=1->∃a,x.aj=some a/\(a.B≠0->a.B≠1->a.B≠2->a.B≠7->a.B≠8->a.Z.ok))[i:ae L kP b x C]
  (hK:G w0 L (K (.tuple #[.agg (vV.cells (ai x).1).toArray,.bool (ai x).2]))):G w0 L (ac 43 [ptr b 0] K):=by
 refine i.ro (λM hK=>?_) hK
 refine EE ?_
 unfold t7
 refine G.new λq=>?_
 rw[jc]
 rw[ic]at *
 intro k g m j n l h
 have hK:=hK k g m j n l h
 unfold ai at hK
 by_cases c:x.B=1
 ·obtain⟨a,o,r⟩:=s c
  simp only[c,if_true,o]at hK
  have hK:G w0 (ob rS g (some a)::own b (x.cells k g m j n l h)::ob qf k x.aw::ob ox m x.aA::sl lQ j x.aX::ob (pf dz) n x.aC::sl dz l x.aF::sl i9 h x.aK::M) (K (.tuple #[.agg (vV.cells (ak a).1).toArray,.bool (ak a).2])):=hK.sub
  rw[xQ]at hK
  refine G.aJ rS g ?_
  rw[o,xQ]
  intro p e
  have hK:=hK p e
  subst e
  refine bx (eq_true c) ?_
  refine Qo (x:=a) r (bi ?_)
  exact hK.sub
 ·rw[zn c]at hK
  by_cases d:x.B=2
  ·rw[zp d]at hK
   refine bx (an c (eq_true d)) ?_
   exact hK.sub
  ·rw[zn d]at hK
   by_cases f:x.B=5
   ·rw[zp f]at hK
    refine bx (an c (an d (eq_true f))) ?_
    exact hK.sub
   ·rw[zn f]at hK
    refine bx (an c (an d f)) ?_
    exact hK.sub
def RN {a:ii}(aB:Cj w0)(d:Pz x a)(hd:0<=draw)(V:draw<=255)[i:ae L kP b x C]
  (hK:∀sl_ ρ,da ρ->(∀at_,x.aj=some at_->B2 (ah ρ at_ a) sl_)->G w0 (C (ob kP b (thrTell ρ x a draw pick sl_))) (K (.tuple #[]))):G w0 L (ac 45 [ptr b 0,.agg (ii.cells a).toArray,.int .u8 draw,i64 pick] K):=by
 refine i.cJ (A':=λz:{ s:qI×ByteArray // da s.1/\∀at_,x.aj=some at_->B2 (ah s.1 at_ a) s.2 }=>ob kP b (thrTell z.1.1 x a draw pick z.1.2)) (F':=λ_=>K (.tuple #[])) (λM hK=>?_) (λz=>hK z.1.2 z.1.1 z.2.1 z.2.2)
 have hK:∀sl_ ρ,da ρ->(∀at_,x.aj=some at_->B2 (ah ρ at_ a) sl_)->G w0 (ob kP b (thrTell ρ x a draw pick sl_)::M) (K (.tuple #[])):=λsl_ ρ D h=>hK ⟨(ρ,sl_),D,h⟩
 obtain⟨E,m⟩:=zY
 have y:∃f,∀at_,x.aj=some at_->B2 (ah E at_ a) f:=by
  cases h:x.aj with
  |none=>exact⟨⟨#[]⟩,λ_ g=>(by cases g)⟩
  |some q=>exact⟨afI (ah E q a),λ_ g=>(by cases g;exact Va)⟩
 obtain⟨f,c⟩:=y
 refine Ek ?_
 unfold tV
 refine G.box λq=>?_
 rw[jc,ic]
 intro j I r l o n k
 unfold thrTell at hK
 by_cases t:x.B=1
 ·obtain⟨U,_,_,at_,Z,ht,P⟩:=d.run t
  simp only[zp t,Z]at hK
  have hK:=λsl_ ρ D (h:B2 (ah ρ at_ a) sl_)=>hK sl_ ρ D (λq g=>by cases g;exact h)
  unfold ml at hK
  refine G.aJ rS I ?_
  rw[Z,xQ]
  intro p e
  subst e
  refine bx (eq_true t) ?_
  refine pW (x:=at_) (bi ?_)
  refine PI (x:=at_) (a:=a) ht λρ D=>?_
  have hK:=λsl_ h=>hK sl_ ρ D h
  have P:=P ρ D
  obtain⟨f,c⟩:∃f,B2 (ah ρ at_ a) f:=⟨_,Va⟩
  generalize af:ah ρ at_ a=a2 at hK P c
  refine bi ?_
  refine pW (x:=a2) (mK ?_)
  refine ar ?_
  refine G.aU ?_
  have u:∀v:Int,v=(if a2.aq&&!at_.aq then pick else x.aP)->G w0 (ob je p a2::own b (bm.cells { x with aj:=some a2,aP:=v } j (ptr p 0) r l o n k)::ob qf j x.aw::ob ox r x.aA::sl lQ l x.aX::ob (pf dz) o x.aC::sl dz n x.aF::sl i9 k x.aK::own q (ii.cells a)::M)
    (ac 79 [ptr p 0] (λT=>ap .neq T (i64 0) (λR=>aw (K (.tuple #[])) (λW=>aj R (ac 80 [ptr b 0,.int .u8 draw,i64 pick] (λal=>W)) W)))):=by
   intro v S
   simp only[<-S]at hK
   refine bi ?_
   refine lU (x:=a2) ?_
   by_cases F:a2.B=8
   ·obtain⟨Q,Y⟩:=P F
    rw[zp F]
    by_cases N:a2.O=0
    ·have hK:=hK f c
     rw[zn (λh=>h.2 N)]at hK
     rw[N]
     refine bi ?_
     refine nh p a2 ?_
     refine dj b { x with aj:=some a2,aP:=v } j (ptr p 0) r l o n k ?_
     exact hK.sub
    ·simp only[zp (show a2.B=8/\a2.O≠0 from⟨F,N⟩)]at hK
     refine bx N ?_
     refine nh p a2 ?_
     refine dj b { x with aj:=some a2,aP:=v } j (ptr p 0) r l o n k ?_
     have hj:=d.aw
     refine Pt aB (x:={ x with aj:=some a2,aP:=v }) (a:=a2) rfl Q d.aA d.aX d.aC Y ⟨hj.lo,hj.hi,hj.cg,hj.aF⟩ U d.a6 hd V λsl_ y=>bi ?_
     exact(hK sl_ y).sub
   ·rw[zn F]
    have hK:=hK f c
    rw[zn (λh=>F h.1)]at hK
    refine bi ?_
    refine nh p a2 ?_
    refine dj b { x with aj:=some a2,aP:=v } j (ptr p 0) r l o n k ?_
    exact hK.sub
  cases X:(a2.aq&&!at_.aq)
  ·have h:=u x.aP (by rw[X];simp)
   refine bi ?_
   exact h
  ·have h:=u pick (by rw[X];simp)
   refine bi ?_
   exact h
 ·simp only[zn t]at hK
  by_cases A:x.B=2
  ·simp only[zp A]at hK
   refine bx (an t (eq_true A)) ?_
   refine dj b x j I r l o n k ?_
   refine Qv (x:=x) (a:=a) d.aw hd V (bi ?_)
   exact(hK f E m c).sub
  ·simp only[zn A]at hK
   by_cases w:x.B=5
   ·simp only[zp w]at hK
    obtain⟨Q,g2,Y⟩:=d.aK w
    have H:=d.look w
    have am:=d.aC
    by_cases J:a.aV=0
    ·simp only[zp J]at hK
     refine bx (an t (an A (an (eq_true w) (eq_true J)))) ?_
     refine dj b x j I r l o n k ?_
     refine Cp (x:=x) (since:=a.word) d.aw H d.a6 Q zo (bi ?_)
     exact(hK f E m c).sub
    ·simp only[zn J]at hK
     refine bx (an t (an A (an (eq_true w) J))) ?_
     refine dj b x j I r l o n k ?_
     refine Cp (x:=x) (since:=0) d.aw H d.a6 Q zo (bi ?_)
     exact(hK f E m c).sub
   ·simp only[zn w]at hK
    have hK:=hK f E m c
    rw[ic]at hK
    refine bx (an t (an A w)) ?_
    exact(hK j I r l o n k).sub
end
end Go.Proofs.YtoealglbimbbmaaGreatDoor.S
namespace Go.Proofs.YtoealglbimbbmaaGreatDoor.S
open Go Go.Proofs
def G.dH {α:Type}{E:uk α}{w0:bz}{L:List bg}{C:bg->List bg}{v:Value}{xs:List α}{K:KV}{sz:Nat}[s:uS L v E xs C](h:G w0 L (K v)):G w0 L (p9 sz v none (some (i64 xs.length)) K):=λw H=>by
 obtain⟨M,e1,e2⟩:=vF (w0:=w0) s.dC
 have hw:=h w H
 rcases((e1 w).1 H).bH with⟨rfl,rfl,H2⟩|⟨c,cap,rest,rfl,g2,g3,H2⟩
 ·simpa[p9,Ka]using hw
 ·simp only[p9,Ka]
  refine⟨zo,zo,zo,?_⟩
  have e:(if cap=((0:Nat):Int).toNat then some (⟨c,0,none⟩:Addr)else Option.map (λx=>x.add (((0:Nat):Int).toNat*sz)) (some (⟨c,0,none⟩:Addr)))=some ⟨c,0,none⟩:=by
   split
   ·rfl
   ·simp[Addr.add]
  have e2:((xs.length:Int)).toNat-((0:Nat):Int).toNat=xs.length:=by simp
  have e3:cap-((0:Nat):Int).toNat=cap:=by simp
  rw[e,e2,e3]
  exact hw
section
variable {w0:bz}{L M:List bg}{K:KV}{F:World->Prop}{C:bg->List bg}{b lp p:Nat}{x:bm}{v vj vn vp vr vt vs:Value}
def wP (w0:bz)(q:rq×List co):bg:=pz λt:Bool=>match t with|true=>sl fx q.1.v q.2|false=>kx (Nk w0 q.1.v fx q.2)
def W2 (s:rq)(p:List co) [dn [sl fx s.v p] L M](H:G w0 (wP w0 (s,p)::M) F):G w0 L F:=G.ap (As:=[sl fx s.v p]) (by rw[wP,pM]at H;exact H true)
def acO (s:rq)(p:List co)[a:Nk w0 s.v fx p](H:G w0 (wP w0 (s,p)::L) F):G w0 L F:=by
 rw[wP,pM]at H
 have H:=H false
 simp only[jk]at H
 exact H a
def Pj (w0:bz)(v:Value)(jobs:List (List co)):bg:=pz λl:List (rq×List co)=>cj (kx (l.map (·.2)=jobs)) (cj (sl jj v (l.map (·.1))) (ob (eQ (wP w0)) () l))
def BM {jobs:List (List co)}:G w0 (ob (Pj w0) v jobs::M) F=∀l:List (rq×List co),l.map (·.2)=jobs->G w0 (sl jj v (l.map (·.1))::ob (eQ (wP w0)) () l::M) F:=by
 rw[iw,Pj]
 simp only[pM,im,jk]
theorem Y1 {l:List (rq×List co)}{k:Nat}{q:rq×List co}(h:l[k]? = some q):Rd w0 (ob (eQ (wP w0)) () l::M) q.1.v fx 5 q.2:=⟨rfl,λw H=>by
 have e:G w0 (ob (eQ (wP w0)) () l::M) (λw=>ki fx w q.1.v q.2):=by
  rw[nH h,wP,pM]
  intro t
  cases t with
  |true=>exact λw H=>St.cC H
  |false =>
   simp only[jk]
   intro a w H
   have r:Rd w0 (ob (eQ (wP w0)) () (l.eraseIdx k)::M) q.1.v fx 5 q.2:=inferInstance
   exact r.rd w H
 exact e w H⟩
def Jz {me:Int}{s:cv}{jobs:List (List co)}(al:0<=me)(af:me<(gi s).aB)(h6:jobs.length<=6)(D:∀p∈jobs,nI p)[i:ae L (Pj w0) v jobs C]
  (hK:∀b,G w0 (ob kP b (qQ me s jobs)::L) (K (ptr b 0))):G w0 L (ac 41 [i64 me,.agg (cv.cells s).toArray,v] K):=by
 refine i.cb (P:=λ_=>True) (N:=λb=>ob kP b (qQ me s jobs)) (F':=λb=>K (ptr b 0)) (λM hK=>?_) (λb _=>hK b)
 refine S5 ?_
 unfold JW
 rw[BM]
 intro l X
 have S:l.length=jobs.length:=by grind
 have U:(gi s).aB<=4:=(jp (n:=s.aB) (lo:=1) (hi:=4) zo).2
 refine G.box λq=>bi ?_
 refine yo (bi ?_)
 rw[jL (n:=(gi s).aB-1) zo zo]
 have V:(if(gi s).aB-1<me then(gi s).aB-1 else me)=me:=by grind
 have e2:(if me > 0 then me else 0)=me:=by grind
 refine bx (an V e2) ?_
 refine VN λA=>bi ?_
 refine G.box λb=>?_
 have hc:(if((6:Int)<((l.map (·.1)).length:Int))then 6 else((l.map (·.1)).length:Int))=((l.map (·.1)).length:Int):=by grind
 refine bx hc ?_
 refine G.dH (bi ?_)
 refine G.a3 jj ?_
 refine tI (f:=NA) ?_
 refine G.a8 (σ:=Nat×List (rq×List co)×Value) (λs=>i64 s.1) (λz=>ob (eQ NA) () z.2.1::sl jj z.2.2 (z.2.1.map (·.1))::own b (bm.cells ⟨me,gi s,jobs,-1,0,false,[],0,0,none,0,false,[],[],[],[],0,0,false,0⟩ z.2.2 (.pointer none) (.slice none 0 0) (.slice none 0 0) A (.slice none 0 0) (.slice none 0 0))::ob (pf dz) A []::own q (cv.cells (gi s))::sl jj v (l.map (·.1))::ob (eQ (wP w0)) () l::M)
  (λz=>z.1<=l.length/\z.2.1.map (·.2)=jobs.take z.1/\ax z.2.2 [z.2.2]) (λz=>l.length-z.1) (0,[],.slice none 0 0) rfl rfl ⟨zag _,rfl,bj⟩ ?_
 rintro⟨k,d,O⟩ ⟨Z,c,m⟩ J hJ
 simp only at Z c m hJ ⊢
 have w:d.length=k:=by
  have:=congrArg List.length c
  simp only[zaq,zaC]at this
  omega
 refine ar ?_
 refine G.cond (λh=>?_) (λh=>?_)
 ·have a:k<l.length:=by simpa using h
  have g:k<jobs.length:=by omega
  have e:iW (l.map (·.1)) k l[k].1:=⟨by rw[zax,dg a];rfl⟩
  have Q:l[k].2=jobs[k]:=by grind
  have o:=D _ (zae g)
  unfold nI at o
  refine bi ?_
  refine G.new λq2=>bi ?_
  refine G.ap (As:=[ob (eQ (wP w0)) () l]) ?_
  simp only[Fn,GT]
  refine th (r:=Y1 (dg a)) (by rw[Q];omega) λu hu=>?_
  refine G.cq (v:=u) λj B=>?_
  subst B
  refine bi ?_
  refine G.build jj [j] rfl zd rfl λy hy=>bi ?_
  refine G.append (E:=jj) (xs:=d.map (λz:rq×List co=>z.1)) (ys:=[j]) (by simp only[zaq,gg];omega) (by simp only[zaq,gg,maxLen];omega) λu5 W=>bi ?_
  rw[fm zo]
  have R:=hJ (k+1,d++[(j,l[k].2)],u5) ⟨a,by rw[zal,c,zcO,Q,zaz g],W⟩ (by simp only;omega)
  simp only[zal,zaj,zaL]at R
  refine G.ap (As:=[NA (j,l[k].2),ob (eQ NA) () d]) ?_
  rw[Fn,Fn,GT,<-pU]
  exact R.sub
 ·have a:k=l.length:=by grind
  have t:d.map (·.2)=jobs:=by grind
  refine FK O d ?_
  rw[t]
  refine aah ?_
  refine G.a3 lQ ?_
  refine G.a3 mm ?_
  refine tI (f:=kB) ?_
  refine G.a3 dz ?_
  refine G.a3 i9 ?_
  have Y:∀{N:List bg} {F:World->Prop},G w0 (ob ox (.slice none 0 0) []::N) F->G w0 (ob (eQ kB) () []::sl mm (.slice none 0 0) []::N) F:=λH=>by
   rw[s9]at H
   rw[jc]
   exact H [] ⟨rfl,zs⟩
  refine G.ap (As:=[ob (eQ kB) () [],sl mm (.slice none 0 0) []]) ?_
  simp only[Fn,GT]
  refine Y ?_
  refine dj b ⟨me,gi s,jobs,-1,0,false,[],0,0,none,0,false,[],[],[],[],0,0,false,0⟩ O (.pointer none) (.slice none 0 0) (.slice none 0 0) A (.slice none 0 0) (.slice none 0 0) ?_
  refine lj (x:=⟨me,gi s,jobs,-1,0,false,[],0,0,none,0,false,[],[],[],[],0,0,false,0⟩) ⟨by show(0:Int)<=-1+1;decide,by show(-1:Int)+1<=_;omega,D,zs⟩ (by show jobs.length<=_;omega) (bi ?_)
  have I:=hK b trivial
  rw[jc,BM]at I
  have T:=I l X
  exact T.sub
theorem ags {l:List wu}{k:Nat}{q:wu}(h:l[k]? = some q):Rd w0 (ob (eQ kB) () l::M) q.1.a5.v cg 2 q.2.1.a5/\Rd w0 (ob (eQ kB) () l::M) q.1.bu.v cg 2 q.2.1.cells/\Rd w0 (ob (eQ kB) () l::M) q.1.aH.v bq 1 q.2.2:=by
 have a:kB q=cj (cj (sl cg q.1.a5.v q.2.1.a5) (sl cg q.1.bu.v q.2.1.cells)) (sl bq q.1.aH.v q.2.2):=rfl
 have c:G w0 (ob (eQ kB) () l::M) (λw=>ki cg w q.1.a5.v q.2.1.a5):=by
  rw[nH h,a,im,im]
  exact λw H=>St.cC H
 have d:G w0 (ob (eQ kB) () l::M) (λw=>ki cg w q.1.bu.v q.2.1.cells):=by
  rw[nH h,a,im,im,jc]
  exact λw H=>St.cC H
 have b:G w0 (ob (eQ kB) () l::M) (λw=>ki bq w q.1.aH.v q.2.2):=by
  rw[nH h,a,im,im,Pi]
  exact λw H=>St.cC H
 exact⟨⟨rfl,λw H=>c w H⟩,⟨rfl,λw H=>d w H⟩,⟨rfl,λw H=>b w H⟩⟩
def Ns {a:Iv}{rd cl:List ay}{fr:List Int}(r1:Rd w0 L a.a5.v cg 2 rd)(r2:Rd w0 L a.bu.v cg 2 cl)(r3:Rd w0 L a.aH.v bq 1 fr)(t:rd.length<=1000)(u:cl.length<=1000)(s:fr.length<=100000)
  (hK:∀r c f:rq,G w0 (sl cg r.v rd::sl cg c.v cl::sl bq f.v fr::L) (K (.agg (Iv.cells { a with a5:=r,bu:=c,aH:=f }).toArray))):G w0 L (ac 86 [.agg (Iv.cells a).toArray] K):=by
 refine NT ?_
 unfold CA
 refine G.box λq=>?_
 refine G.new λo=>bi ?_
 refine iQ (xs:=rd) zo λj p=>?_
 refine G.cq (v:=j) λe b=>?_
 subst b
 refine bi ?_
 refine iQ (xs:=cl) zo λh n=>?_
 refine G.cq (v:=h) λd i=>?_
 subst i
 refine bi ?_
 refine mQ (xs:=fr) zo λl m=>?_
 refine G.cq (v:=l) λk g=>?_
 subst g
 refine bi ?_
 exact(hK e d k).sub
def adn (ys:List wu)(e:Iv)(t:Ta)(fr:List Int) [dn [sl cg e.a5.v t.a5,sl cg e.bu.v t.cells,sl bq e.aH.v fr,ob (eQ kB) () ys] L M](H:G w0 (ob (eQ kB) () (ys++[(e,t,fr)])::M) F):G w0 L F :=
 G.ap (As:=[sl cg e.a5.v t.a5,sl cg e.bu.v t.cells,sl bq e.aH.v fr,ob (eQ kB) () ys]) (by
  rw[pU,show kB (e,t,fr)=cj (cj (sl cg e.a5.v t.a5) (sl cg e.bu.v t.cells)) (sl bq e.aH.v fr)from rfl,im,im]at H
  exact H)
def FC {n:List Ta}(u:Value)(l:List wu) [dn [sl mm u (l.map (·.1)),ob (eQ kB) () l] L M](hl:l.map (·.2.1)=n/\∀p∈l,M9 p)(H:G w0 (ob ox u n::M) F):G w0 L F :=
 G.ap (As:=[sl mm u (l.map (·.1)),ob (eQ kB) () l]) (by rw[s9]at H;exact H l hl)
def Kh (ht:Cj w0)(H:x.aA.length<=1000000)(Q:x.B=1->∃a,x.aj=some a/\Nb a)[i:ae L kP b x C](hK:∀u,ax u [u]->G w0 (ob ox u (kD x)::L) (K u)):G w0 L (ac 52 [ptr b 0] K):=by
 refine i.cb (λM hK=>?_) hK
 refine Af ?_
 unfold pI
 rw[ic]
 intro o A m t w v q
 refine G.aJ ox m ?_
 rw[s9]
 intro l X
 have af:l.length=x.aA.length:=by grind
 refine bi ?_
 refine G.a3 mm ?_
 refine tI (f:=kB) ?_
 refine G.bN (σ:=Nat×List wu×Value) (λz=>z.2.2) (λz=>i64 z.1) (λz=>ob (eQ kB) () z.2.1::sl mm z.2.2 (z.2.1.map (·.1))::sl mm m (l.map (·.1))::ob (eQ kB) () l::own b (x.cells o A m t w v q)::ob qf o x.aw::ob rS A x.aj::sl lQ t x.aX::ob (pf dz) w x.aC::sl dz v x.aF::sl i9 q x.aK::M)
  (λz=>z.1<=l.length/\z.2.1.length=z.1/\z.2.1.map (·.2.1)=x.aA.take z.1/\(∀p∈z.2.1,M9 p)/\ax z.2.2 [z.2.2]) (λz=>l.length-z.1) (0,[],.slice none 0 0) rfl rfl rfl ⟨zag _,rfl,rfl,zs,bj⟩ ?_
 rintro⟨k,ys,S⟩ ⟨hk,hy,D,n,O⟩ J hJ
 simp only at hk hy D n O hJ ⊢
 refine ar ?_
 refine G.cond (λh=>?_) (λh=>?_)
 ·have j:k<l.length:=by simpa using h
  have Z:k<x.aA.length:=by omega
  have d:=X.2 _ (zae j)
  have e:iW (l.map (·.1)) k l[k].1:=⟨by rw[zax,dg j];rfl⟩
  have hq:l[k].2.1=x.aA[k]:=by grind
  refine bi ?_
  refine G.new λq2=>bi ?_
  refine G.ap (As:=[ob (eQ kB) () l]) ?_
  simp only[Fn,GT]
  have Q:=λN:List bg=>ags (w0:=w0) (M:=N) (dg j)
  refine Ns (a:=l[k].1) (rd:=l[k].2.1.a5) (cl:=l[k].2.1.cells) (fr:=l[k].2.2) (Q _).1 (Q _).2.1 (Q _).2.2 d.a5 d.cells d.aH λr c f=>bi ?_
  refine G.build mm [{ l[k].1 with a5:=r,bu:=c,aH:=f }] rfl zd rfl λy g6=>bi ?_
  refine G.append (E:=mm) (xs:=ys.map λz:wu=>z.1) (ys:=[{ l[k].1 with a5:=r,bu:=c,aH:=f }]) (by simp only[zaq,gg];omega) (by simp only[zaq,gg,maxLen];omega) λT V=>bi ?_
  rw[fm zo]
  have hn:=hJ (k+1,ys++[({ l[k].1 with a5:=r,bu:=c,aH:=f },l[k].2.1,l[k].2.2)],T) ⟨j,by simp[hy],by rw[zal,D,zcO,hq,zaz Z],λp H=>by
   rcases zar.1 H with H|H
   ·exact n p H
   ·rw[zaf.1 H];exact⟨d.I,d.done,d.aP,d.ch,d.a5,d.cells,d.aH⟩,V⟩ (by simp only;omega)
  simp only[zal,zaj,zaL]at hn
  refine adn ys { l[k].1 with a5:=r,bu:=c,aH:=f } l[k].2.1 l[k].2.2 ?_
  exact hn.sub
 ·have j:k=l.length:=by grind
  have P:ys.map (·.2.1)=x.aA:=by grind
  have g:kD x=x.aA->G w0 (ob (eQ kB) () ys::sl mm S (ys.map (·.1))::sl mm m (l.map (·.1))::ob (eQ kB) () l::own b (x.cells o A m t w v q)::ob qf o x.aw::ob rS A x.aj::sl lQ t x.aX::ob (pf dz) w x.aC::sl dz v x.aF::sl i9 q x.aK::M) (K S):=λe=>by
   rw[e]at hK
   refine FC m l X ?_
   refine FC S ys ⟨P,n⟩ ?_
   refine dj b x o A m t w v q ?_
   exact(hK S O).sub
  by_cases R:x.B=1
  ·obtain⟨a,U,F⟩:=Q R
   have et:kD x=x.aA++(if a.aq=true then [j6 a x.aP 0]else []):=by grind
   refine G.aJ rS A ?_
   rw[U,xQ]
   intro p e
   subst e
   refine bx (eq_true R) ?_
   refine pW (x:=a) (bi ?_)
   refine G.cond (λW=>?_) (λW=>?_)
   ·rw[et,zp W]at hK
    refine G.ap (As:=[own b (x.cells o (ptr p 0) m t w v q),ob je p a]) ?_
    simp only[Fn,GT]
    refine Hz ht (x:=x) (pick:=0) F λr c f s _=>bi ?_
    refine G.build mm [vJ x a 0 r c f s] rfl zd rfl λy g6=>bi ?_
    refine G.append (E:=mm) (xs:=ys.map λz:wu=>z.1) (ys:=[vJ x a 0 r c f s]) (by simp only[zaq,gg];omega) (by simp only[zaq,gg,maxLen];omega) λT V=>bi ?_
    refine LH T ys (vJ x a 0 r c f s) (j6 a x.aP 0) a.bc ⟨P,n⟩ (ZI F) ?_
    refine FC m l X ?_
    refine nh p a ?_
    rw[<-U]
    refine dj b x o (ptr p 0) m t w v q ?_
    exact(hK T V).sub
   ·have Y:=g (by rw[et,zn (by rw[W];decide),zbw])
    refine nh p a ?_
    rw[<-U]
    exact Y.sub
  ·have Y:=g (by unfold kD;rw[zn R,zbw])
   refine bx R ?_
   exact Y
end
abbrev qG (p:Nat×bm):bg:=ob kP p.1 p.2
abbrev eU.cells (x:eU)(mp:Nat)(vt:Value)(o:vV)(did:Bool):List Value:=[i64 x.s.a0,i64 x.s.F,i64 x.s.wide,i64 x.s.aB,u64 x.s.start,i64 x.s.aR,i64 x.s.bP,i64 x.s.fuel,ptr mp 0,vt,i64 x.au,
 i64 o.aN,i64 o.J,u64 o.bT,u64 o.word,u64 o.was.D,.bool o.was.held,i64 o.was.ar,u64 o.ac.D,.bool o.ac.held,i64 o.ac.ar,.bool did]
def oH (b:Nat)(x:eU):bg:=pz λmp=>pz λvt=>pz λl:List (Nat×bm)=>cj (kx (l.map (·.2)=x.ad)) (cj (cj (cj (own b (x.cells mp vt x.cK x.cP)) (ob CV mp x.mem)) (sl lV vt (l.map (·.1)))) (ob (eQ qG) () l))
section
variable {w0:bz}{L M:List bg}{K:KV}{F:World->Prop}{C:bg->List bg}{b mp:Nat}{x:eU}{v vt:Value}{o:vV}{did:Bool}
def oM:G w0 (ob oH b x::M) F=∀mp vt (l:List (Nat×bm)),l.map (·.2)=x.ad->G w0 (own b (x.cells mp vt x.cK x.cP)::ob CV mp x.mem::sl lV vt (l.map (·.1))::ob (eQ qG) () l::M) F:=by
 rw[iw,oH]
 simp only[pM,im,jk]
def tw (b:Nat)(x:eU)(mp:Nat)(vt:Value)(l:List (Nat×bm)){ps:List Nat}(hps:l.map (·.1)=ps)(hl:l.map (·.2)=x.ad) [dn [own b (x.cells mp vt x.cK x.cP),ob CV mp x.mem,sl lV vt ps,ob (eQ qG) () l] L M](H:G w0 (ob oH b x::M) F):G w0 L F :=
 G.ap (As:=[own b (x.cells mp vt x.cK x.cP),ob CV mp x.mem,sl lV vt ps,ob (eQ qG) () l]) (by rw[oM]at H;have:=H mp vt l hl;rw[hps]at this;exact this)
def agv {α:Type}{f:α->bg}{l:List α}{y:α}{k:Nat}(a:k<l.length):G w0 (ob (eQ f) () (l.set k y)::M) F=G w0 (f y::ob (eQ f) () (l.eraseIdx k)::M) F:=by
 rw[nH (k:=k) (x:=y) (by rw[zap a])]
 rw[List.eraseIdx_set_eq]
def XD {l:List (Nat×bm)}{i:Nat}{t:bm}{b:List bm}(a:l.map (·.2)=b)(hi:b[i]? = some t):∃p,l[i]? = some (p,t):=by
 rw[<-a,zax]at hi
 grind
theorem FX {l:List (Nat×bm)}{i p:Nat}{t:bm}(h:l[i]? = some (p,t)):iW (l.map (·.1)) i p:=⟨by rw[zax,h];rfl⟩
def UN {l:List (Nat×bm)}{i p:Nat}{t:bm}(h:l[i]? = some (p,t)):i<l.length:=(Nm.1 h).1
def UH {l:List (Nat×bm)}{i p:Nat}{t y:bm}(h:l[i]? = some (p,t)):(l.set i (p,y)).map (·.1)=l.map (·.1):=by
 refine zbk λj=>?_
 grind
def OS {l:List (Nat×bm)}{i p:Nat}{t y:bm}(h:l[i]? = some (p,t)) [dn [ob kP p y,ob (eQ qG) () (l.eraseIdx i)] L M](H:G w0 (ob (eQ qG) () (l.set i (p,y))::M) F):G w0 L F :=
 G.ap (As:=[ob kP p y,ob (eQ qG) () (l.eraseIdx i)]) (by rw[agv (UN h)]at H;exact H)
def Ol {l:List (Nat×bm)}{i p:Nat}{t:bm}(h:l[i]? = some (p,t)) [dn [ob kP p t,ob (eQ qG) () (l.eraseIdx i)] L M](H:G w0 (ob (eQ qG) () l::M) F):G w0 L F :=
 G.ap (As:=[ob kP p t,ob (eQ qG) () (l.eraseIdx i)]) (by rw[nH h]at H;exact H)
def XR {i k:Nat}{s a:Int}{l:List bm}:(mU i s a k l).length=l.length:=by grind[mU]
def xf {i k j:Nat}{s a:Int}{l:List bm}:(mU i s a k l)[j]? = l[j]?.map λu=>if j<k/\j≠i then iO u s a else u:=by grind[mU]
def WX {i:Nat}{s ver:Int}{l:List bm}:mU i s ver 0 l=l:=zbk λj=>by rw[xf];cases l[j]?<;>simp
def abO {i:Nat}{s ver:Int}{l:List bm}:mU i s ver (i+1) l=mU i s ver i l:=zbk λj=>by
 rw[xf,xf]
 congr 1
 funext u
 by_cases h:j<i
 ·rw[zp ⟨zo,zo⟩,zp ⟨h,zo⟩]
 ·rw[zn,zn]
def VY {i k:Nat}{s ver:Int}{l:List bm}{u:bm}(hu:l[k]? = some u)(hk:k≠i):mU i s ver (k+1) l=(mU i s ver k l).set k (iO u s ver):=zbk λj=>by
 have hlt:=(Nm.1 hu).1
 rw[xf]
 by_cases h:k=j
 ·subst h
  rw[zap (by rw[XR];exact hlt),hu]
  simp[hk]
 ·rw[zai h,xf]
  congr 1
  funext u
  by_cases h2:j<k
  ·by_cases h3:j=i
   ·rw[zn,zn]
   ·rw[zp ⟨zo,h3⟩,zp ⟨h2,h3⟩]
  ·rw[zn,zn]
def EN (ht:Cj w0){i:Nat}{t:bm}{draw:Int}(F:aem x i t)(hd:0<=draw)(aE:draw<=255)[i_:ae L oH b x C]
  (hK:∀sl_ ρ,da ρ->(∀at_,t.aj=some at_->B2 (ah ρ at_ (ag x.mem (ai t).1).2) sl_)->G w0 (C (ob oH b (if(ai t).2=true then bw ρ x i t draw sl_ else kz x i t))) (K (i64 0))):G w0 L (ac 15 [ptr b 0,i64 i,.int .u8 draw] K):=by
 refine i_.cJ (A':=λz:{ s:qI×ByteArray // da s.1/\∀at_,t.aj=some at_->B2 (ah s.1 at_ (ag x.mem (ai t).1).2) s.2 }=>ob oH b (if(ai t).2=true then bw z.1.1 x i t draw z.1.2 else kz x i t)) (F':=λ_=>K (i64 0)) (λM hK=>?_) (λz=>hK z.1.2 z.1.1 z.2.1 z.2.2)
 have hK:∀sl_ ρ,da ρ->(∀at_,t.aj=some at_->B2 (ah ρ at_ (ag x.mem (ai t).1).2) sl_)->G w0 (ob oH b (if(ai t).2=true then bw ρ x i t draw sl_ else kz x i t)::M) (K (i64 0)):=λsl_ ρ hρ h=>hK ⟨(ρ,sl_),hρ,h⟩
 obtain⟨ρ0,am⟩:=zY
 have H:∃s0,∀at_,t.aj=some at_->B2 (ah ρ0 at_ (ag x.mem (ai t).1).2) s0:=by
  cases h:t.aj with
  |none=>exact⟨⟨#[]⟩,λ_ g=>(by cases g)⟩
  |some q=>exact⟨afI (ah ρ0 q (ag x.mem (ai t).1).2),λ_ g=>(by cases g;exact Va)⟩
 obtain⟨s0,V⟩:=H
 refine rG ?_
 unfold m9
 rw[oM]
 intro Q P l X
 obtain⟨p,N⟩:=XD X F.aG
 have e:=FX N
 have aC:=UN N
 have T:l.length=x.ad.length:=by rw[<-X];simp
 have hf:=F.a6
 have aD:=F.au
 have n1:¬(i:Int)<0:=by omega
 have n2:¬((l.map (·.1)).length:Int)<=i:=by simp;omega
 have af:IntKind.wrap .i64 (x.au+1)=x.au+1:=jL zo zo
 refine mK ?_
 refine bx (an n1 (an n2 af)) ?_
 refine G.aJ (eQ qG) () ?_
 rw[nH N]
 refine RE (x:=t) F.aK F.run ?_
 unfold bw kz at hK
 generalize Z:ai t=nx at hK V
 have v:=F.dK
 have r:=F.aS
 rw[Z]at v r
 obtain⟨c,d⟩:=nx
 simp only at v r hK
 cases d
 ·have hK:=hK s0 ρ0 am V
  rw[zn zd]at hK
  refine bi ?_
  refine PZ (x:=t) F.aw (r rfl) (bi ?_)
  refine OS (y:=gK t) N ?_
  refine tw b { x with ad:=x.ad.set i (gK t),au:=x.au+1,cK:=c,cP:=false } Q P (l.set i (p,gK t)) (UH N) (by rw[zcN,X]) ?_
  exact hK.sub
 ·simp only[if_true]at hK
  refine bi ?_
  refine Kb (m:=x.mem) (o:=c) (bi ?_)
  refine RN ht (x:=t) (v rfl) hd aE λsl_ ρ hρ H=>?_
  have hK:=hK sl_ ρ hρ H
  refine bi ?_
  generalize thrTell ρ t (ag x.mem c).2 draw (x.au+1) sl_=t2 at hK
  generalize(ag x.mem c).1=m2 at hK
  refine OS (y:=t2) N ?_
  have e2:=UH (y:=t2) N
  have w:(l.set i (p,t2)).map (·.2)=x.ad.set i t2:=by rw[zcN,X]
  have hq:∀k u,k≠i->(x.ad.set i t2)[k]? = some u->m7 u/\∀a,u.aj=some a->a.rd.length<=1000:=λk u Y h=>by
   rw[zai (λg=>Y g.symm)]at h
   exact F.db k u h Y
  have S:(l.set i (p,t2)).length=l.length:=by simp
  generalize l.set i (p,t2)=l2 at e2 w S
  have B:∀(f:List (Nat×bm)) (j:List bm),f.map (·.1)=l.map (·.1)->f.map (·.2)=j->G w0 (ob oH b { x with mem:=m2,ad:=j,au:=x.au+1,cK:=c,cP:=true }::M) (K (i64 0))->G w0 (ob (eQ qG) () f::own b (eU.cells { x with mem:=m2,au:=x.au+1 } Q P c true)::ob CV Q m2::sl lV P (l.map (·.1))::M) (K (i64 0)):=λf j E O g3=>by
   refine tw b { x with mem:=m2,ad:=j,au:=x.au+1,cK:=c,cP:=true } Q P f E O ?_
   exact g3.sub
  by_cases W:c.aN=5
  ·rw[zp W]at hK
   have I:(x.ad.set i t2).length=l.length:=by simp[T]
   rw[<-T]at hK
   generalize x.ad.set i t2=thr2 at hK w hq I
   refine ca (eq_true W) ?_
   refine G.a8 (σ:=Nat×List (Nat×bm)) (λz=>i64 z.1) (λz=>ob (eQ qG) () z.2::own b (eU.cells { x with mem:=m2,au:=x.au+1 } Q P c true)::ob CV Q m2::sl lV P (l.map (·.1))::M)
    (λz=>z.1<=l.length/\z.2.map (·.1)=l.map (·.1)/\z.2.map (·.2)=mU i c.J c.ac.D z.1 thr2) (λz=>l.length-z.1) (0,l2) rfl rfl ⟨zag _,e2,by rw[WX];exact w⟩ ?_
   rintro⟨k,f⟩ ⟨Y,E,O⟩ J hJ
   simp only at Y E O hJ ⊢
   have aB:f.length=l.length:=by have:=congrArg List.length E;simpa using this
   refine ar ?_
   refine G.cond (λh=>?_) (λh=>?_)
   ·have A:k<l.length:=by simpa using h
    have al:k<f.length:=by omega
    rcases hu:f[k]with⟨pk,u⟩
    have n:f[k]? = some (pk,u):=by rw[dg al,hu]
    have ek:iW (l.map (·.1)) k pk:=by rw[<-E];exact FX n
    have U:thr2[k]? = some u:=by
     have R:(f.map (·.2))[k]? = some u:=by rw[zax,n];rfl
     rw[O,xf]at R
     cases ht:thr2[k]? with
     |none=>rw[ht]at R;cases R
     |some u2=>rw[ht]at R;simpa using R
    by_cases ci:k=i
    ·subst ci
     have hn:=hJ (k+1,f) ⟨A,E,by rw[O,abO]⟩ (by simp only;omega)
     refine bi ?_
     rw[fm zo]
     exact hn.sub
    ·have aA:¬(k:Int)=i:=by omega
     obtain⟨j1,j2⟩:=hq k _ ci U
     have hn:=hJ (k+1,f.set k (pk,iO u c.J c.ac.D)) ⟨A,by rw[UH n,E],by rw[zcN,O,VY U ci]⟩ (by simp only;omega)
     refine bx aA ?_
     refine G.aJ (eQ qG) () ?_
     rw[nH n]
     refine Rf (x:=u) j1 j2 ?_
     rw[fm zo]
     refine OS (y:=iO u c.J c.ac.D) n ?_
     exact hn.sub
   ·have A:k=l.length:=by
     have:¬k<l.length:=by simpa using h
     omega
    refine ar ?_
    refine G.sub (B f (mU i c.J c.ac.D l.length thr2) E (by rw[O,A]) hK)
  ·rw[zn W]at hK
   refine ca W ?_
   exact(B l2 _ e2 w hK).sub
def nP [i:ae L oH b x C](hK:G w0 L (K (i64 x.ad.length))):G w0 L (ac 31 [ptr b 0] K):=by
 refine i.ro (λM hK=>?_) hK
 refine yM ?_
 unfold oQ
 rw[oM]at *
 intro d a l c
 have hK:=hK d a l c
 have e:((l.map (·.1)).length:Int)=x.ad.length:=by grind
 refine ca e ?_
 exact hK
def NJ (e:x.mem.w.length<=1000000)[i:ae L oH b x C](hK:∀u,ax u [u]->G w0 (sl i9 u x.mem.w::L) (K u)):G w0 L (ac 13 [ptr b 0] K):=by
 refine i.cb (λM hK=>?_) hK
 refine Bf ?_
 unfold qk
 rw[oM]
 intro c a l h
 refine ar ?_
 refine NQ (m:=x.mem) e λu d=>?_
 refine tw b x c a l rfl h ?_
 exact(hK u d).sub
def vP:List bm->Bool
 | []=>true
 |t::l=>(decide (t.B=6)||decide (t.B=4))&&vP l
def CF (w:x.ad.length<=4)[i:ae L oH b x C](hK:G w0 L (K (.bool (vP x.ad)))):G w0 L (ac 36 [ptr b 0] K):=by
 refine i.ro (λM hK=>?_) hK
 refine AN ?_
 unfold qs
 rw[oM]at *
 intro m f l o
 have hK:=hK m f l o
 have q:l.length=x.ad.length:=by grind
 refine ar ?_
 refine G.a8 (λk:Nat=>i64 k) (λk=>own b (x.cells m f x.cK x.cP)::ob CV m x.mem::sl lV f (l.map (·.1))::ob (eQ qG) () l::M) (λk=>k<=l.length/\vP x.ad=vP (x.ad.drop k)) (λk=>l.length-k) 0 rfl rfl zs ?_
 intro k ⟨hk,hr⟩ J hJ
 refine ar ?_
 refine G.cond (λh=>?_) (λh=>?_)
 ·have a:k<l.length:=by simpa using h
  rcases hu:l[k]with⟨n,u⟩
  have c:l[k]? = some (n,u):=by grind
  have v:iW (l.map (·.1)) k n:=FX c
  have r:x.ad.drop k=u::x.ad.drop (k+1):=by
   have p:x.ad[k]? = some u:=by grind
   obtain⟨t,s⟩:=Nm.1 p
   rw[zav t,s]
  rw[r,show vP (u::x.ad.drop (k+1))=((decide (u.B=6)||decide (u.B=4))&&vP (x.ad.drop (k+1)))from rfl]at hr
  refine mK ?_
  refine ar ?_
  refine G.aJ (eQ qG) () ?_
  rw[nH c]
  refine EV (x:=u) ?_
  rw[<-nH c]
  by_cases d:u.B=6
  ·have j:=hJ (k+1) ⟨a,by rw[hr];simp[d]⟩ zo
   refine ca d ?_
   rw[fm zo]
   exact j.sub
  ·by_cases g:u.B=4
   ·have j:=hJ (k+1) ⟨a,by rw[hr];simp[g]⟩ zo
    refine ca (an d g) ?_
    rw[fm zo]
    exact j.sub
   ·have e:vP x.ad=false:=by grind
    rw[e]at hK
    refine ca (an d g) ?_
    exact hK.sub
 ·have a:k=x.ad.length:=by grind
  have e:vP x.ad=true:=by rw[hr,a,List.drop_length];rfl
  rw[e]at hK
  refine ar ?_
  exact hK
def zg {i:Nat}{t:bm}(hi:x.ad[i]? = some t)(o:x.ad.length<=4)(m:t.aX.length<=1000000)[n:ae L oH b x C](hK:∀u,ax u [u]->G w0 (sl lQ u t.aX::L) (K u)):G w0 L (ac 27 [ptr b 0,i64 i] K):=by
 refine n.cb (λM hK=>?_) hK
 refine yG ?_
 unfold oW
 refine vE ?_
 unfold oA
 rw[oM]
 intro k g l h
 obtain⟨p,a⟩:=XD h hi
 have e:=FX a
 have c:=UN a
 have d:¬(i:Int)<0:=by omega
 have j:¬((l.map (·.1)).length:Int)<=i:=by simp;omega
 refine mK ?_
 refine bx (an d j) ?_
 refine G.aJ (eQ qG) () ?_
 rw[nH a]
 refine L5 (x:=t) m λu f=>?_
 refine Ol a ?_
 refine tw b x k g l rfl h ?_
 exact(hK u f).sub
def YA {α:Type}{f:α->bg}{l a:List α}:G w0 (ob (eQ f) () (l++a)::M) F=G w0 (ob (eQ f) () l::ob (eQ f) () a::M) F:=by
 rw[iw,iw,iw,<-im]
 unfold eQ
 rw[zal,Ck]
def HU (ht:Cj w0)(P:∀t∈x.ad,t.aA.length<=1000000/\(t.B=1->∃a,t.aj=some a/\Nb a))(hf:x.ad.length<=4)[i:ae L oH b x C](hK:∀u,ax u [u]->G w0 (ob ox u (aeq x)::L) (K u)):G w0 L (ac 21 [ptr b 0] K):=by
 refine i.cb (λM hK=>?_) hK
 refine xY ?_
 unfold nX
 rw[oM]
 intro H A l S
 have T:l.length=x.ad.length:=by grind
 have y:∀t∈x.ad,(kD t).length<=1000001:=λt h=>by
  have Z:=(P t h).1
  by_cases c:t.B=1
  ·obtain⟨a,Y,_⟩:=(P t h).2 c
   have e:kD t=t.aA++(if a.aq=true then [j6 a t.aP 0]else []):=by grind
   rw[e,LE]
   split<;>simp<;>omega
  ·have e:kD t=t.aA:=by grind
   rw[e];omega
 refine ar ?_
 refine G.a3 mm ?_
 refine tI (f:=kB) ?_
 refine G.bN (σ:=Nat×List wu×Value) (λz=>z.2.2) (λz=>i64 z.1) (λz=>ob (eQ kB) () z.2.1::sl mm z.2.2 (z.2.1.map (·.1))::own b (x.cells H A x.cK x.cP)::ob CV H x.mem::sl lV A (l.map (·.1))::ob (eQ qG) () l::M)
  (λz=>z.1<=l.length/\z.2.1.map (·.2.1)=(x.ad.take z.1).flatMap kD/\(∀p∈z.2.1,M9 p)/\z.2.1.length<=z.1*1000001/\ax z.2.2 [z.2.2]) (λz=>l.length-z.1) (0,[],.slice none 0 0) rfl rfl rfl ⟨zag _,rfl,zs,zag _,bj⟩ ?_
 rintro⟨k,ys,N⟩ ⟨V,D,m,s,r⟩ J hJ
 simp only at V D s m r hJ ⊢
 refine ar ?_
 refine G.cond (λh=>?_) (λh=>?_)
 ·have j:k<l.length:=by simpa using h
  rcases hu:l[k]with⟨I,u⟩
  have g:l[k]? = some (I,u):=by grind
  have ek:iW (l.map (·.1)) k I:=FX g
  have o:x.ad[k]? = some u:=by grind
  obtain⟨g1,W⟩:=Nm.1 o
  have d:=Ok o
  obtain⟨v,F⟩:=P u d
  have R:=y u d
  refine ar ?_
  refine G.aJ (eQ qG) () ?_
  rw[nH g]
  refine Kh ht (x:=u) v F λw hw=>?_
  rw[s9]
  intro zs n
  refine Ol g ?_
  have X:zs.length=(kD u).length:=by grind
  refine G.append (E:=mm) (xs:=ys.map λz:wu=>z.1) (ys:=zs.map λz:wu=>z.1) (by simp only[zaq];omega) (by simp only[zaq,maxLen];omega) λU Q=>ar ?_
  rw[fm zo]
  have O:=hJ (k+1,ys++zs,U) ⟨j,by rw[zal,D,n.1,zaz zo,zbg,W];simp,λp q=>by
   rcases zar.1 q with q|q
   ·exact m p q
   ·exact n.2 p q,by simp only[LE];omega,Q⟩ (by simp only;omega)
  simp only[zal]at O
  refine G.ap (As:=[ob (eQ kB) () ys,ob (eQ kB) () zs]) ?_
  simp only[Fn,GT]
  rw[<-YA]
  exact O.sub
 ·have j:k=x.ad.length:=by grind
  refine ar ?_
  refine FC N ys ⟨by rw[D,j,zbH],m⟩ ?_
  refine tw b x H A l rfl S ?_
  exact(hK N r).sub
abbrev xy (w0:bz)(p:rq×List (List co)):bg:=ob (Pj w0) p.1.v p.2
def HG (w0:bz)(v:Value)(rows:List (List (List co))):bg:=pz λl:List (rq×List (List co))=>cj (kx (l.map (·.2)=rows)) (cj (sl jj v (l.map (·.1))) (ob (eQ (xy w0)) () l))
def FL {rows:List (List (List co))}:G w0 (ob (HG w0) v rows::M) F=∀l:List (rq×List (List co)),l.map (·.2)=rows->G w0 (sl jj v (l.map (·.1))::ob (eQ (xy w0)) () l::M) F:=by
 rw[iw,HG]
 simp only[pM,im,jk]
def QW {n:Int}(hK:∀u,ax u [u]->G w0 (sl i9 u ((List.replicate (held n 32 256).toNat 0).set 5 14)::L) (K u)):G w0 L (ac 39 [i64 n] K):=by
 refine Rt ?_
 unfold Hq
 have e:(if(if(256:Int)<n then 256 else n) > 32 then(if(256:Int)<n then 256 else n)else 32)=held n 32 256:=oG zd
 have d:=jp (n:=n) (lo:=32) (hi:=256) zd
 refine ca e ?_
 obtain⟨j,hj⟩:∃j:Nat,held n 32 256=j:=⟨(held n 32 256).toNat,zo⟩
 have b:32<=j:=by omega
 have c:j<=256:=by omega
 rw[hj]at hK ⊢
 simp only[Int.toNat_natCast]at hK
 refine G.make i9 0 rfl (by simp only[maxLen];omega) zo λu a=>?_
 have f:iW (List.replicate j (0:Int)) 5 0:=⟨by rw[zaP,zp]⟩
 refine ar ?_
 exact hK u a
def BF {s:cv}{r:List (List co)}:∀{l:List (List (List co))}{i:Nat},l8 s i (l++[r])=l8 s i l++[qQ ((i+l.length:Nat):Int) s r]
 | [],i=>rfl
 |a::l,i=>by
  rw[Fn,l8,l8,BF,Fn]
  congr 4
  simp only[zad];omega
def aai {l:List (rq×List (List co))}{i:Nat}{q:rq×List (List co)}(h:l[i]? = some q) [dn [ob (Pj w0) q.1.v q.2,ob (eQ (xy w0)) () (l.eraseIdx i)] L M](H:G w0 (ob (eQ (xy w0)) () l::M) F):G w0 L F :=
 G.ap (As:=[ob (Pj w0) q.1.v q.2,ob (eQ (xy w0)) () (l.eraseIdx i)]) (by rw[nH h]at H;exact H)
def aaj (v:Value)(l:List (rq×List (List co))){ps:List rq}{rs:List (List (List co))}(hp:l.map (·.1)=ps)(hr:l.map (·.2)=rs) [dn [sl jj v ps,ob (eQ (xy w0)) () l] L M](H:G w0 (ob (HG w0) v rs::M) F):G w0 L F :=
 G.ap (As:=[sl jj v ps,ob (eQ (xy w0)) () l]) (by rw[FL]at H;have:=H l hr;rw[hp]at this;exact this)
def N8 (v:Value)(l:List (rq×List co)){ps:List rq}{rs:List (List co)}(hp:l.map (·.1)=ps)(hr:l.map (·.2)=rs) [dn [sl jj v ps,ob (eQ (wP w0)) () l] L M](H:G w0 (ob (Pj w0) v rs::M) F):G w0 L F :=
 G.ap (As:=[sl jj v ps,ob (eQ (wP w0)) () l]) (by rw[BM]at H;have:=H l hr;rw[hp]at this;exact this)
def Qz:List (List (List co))->List (List (List co))
 | []=>[[]]
 |r::l=>r::l
def G.d6 {α:Type}{E:uk α}{xs:List α}{m sz:Nat}[s:uS L v E xs C](hm:m<=xs.length)(h:∀u,(∀K,fu u K=K (i64 m))->(∀k:Nat,k<m->∀K,qH sz u (i64 k) K=qH sz v (i64 k) K)->G w0 L (K u)):G w0 L (p9 sz v none (some (i64 m)) K):=λw H=>by
 obtain⟨M,e1,e2⟩:=vF (w0:=w0) s.dC
 rcases((e1 w).1 H).bH with⟨rfl,rfl,H2⟩|⟨c,cap,rest,rfl,g2,g3,H2⟩
 ·have hm:m=0:=by simpa using hm
  subst hm
  have hw:=h (.slice none 0 0) (λK=>rfl) (λk hk=>by omega) w H
  simpa[p9,Ka]using hw
 ·have hw:=h (.slice (some ⟨c,0,none⟩) m cap) (λK=>rfl) (λk hk K=>by
   funext w
   simp only[qH]
   apply propext
   constructor
   ·rintro⟨h1,h2,h3⟩;exact⟨h1,zo,h3⟩
   ·rintro⟨h1,h2,h3⟩;exact⟨h1,zo,h3⟩) w H
  simp only[p9,Ka]
  refine⟨zo,zo,zo,?_⟩
  have e:(if cap=((0:Nat):Int).toNat then some (⟨c,0,none⟩:Addr)else Option.map (λx=>x.add (((0:Nat):Int).toNat*sz)) (some (⟨c,0,none⟩:Addr)))=some ⟨c,0,none⟩:=by
   split
   ·rfl
   ·simp[Addr.add]
  have e2:((m:Int)).toNat-((0:Nat):Int).toNat=m:=by simp
  have e3:cap-((0:Nat):Int).toNat=cap:=by simp
  rw[e,e2,e3]
  exact hw
def HF {s:cv}{rows:List (List (List co))}(h5:rows.length<=5)(hr:∀r∈rows,r.length<=6/\∀p∈r,nI p)[i:ae L (HG w0) v rows C](hv:ax v [v])
  (hK:∀b,G w0 (ob oH b (gy s (Qz (rows.take 4)))::L) (K (ptr b 0))):G w0 L (ac 10 [.agg (cv.cells s).toArray,v] K):=by
 refine i.cb (P:=λ_=>True) (N:=λb=>ob oH b (gy s (Qz (rows.take 4)))) (F':=λb=>K (ptr b 0)) (λM hK=>?_) (λb _=>hK b)
 refine QU ?_
 unfold GR
 obtain⟨S,hS⟩:∃S,gi { s with aB:=((rows.take 4).length:Int) }=S:=⟨_,rfl⟩
 have V:gi S=S:=by rw[<-hS];exact Je _
 have hw:=jp (n:=s.a0) (lo:=32) (hi:=256) zd
 have I:S.a0=held s.a0 32 256:=by rw[<-hS];rfl
 obtain⟨R,hR⟩:∃R,Qz (rows.take 4)=R:=⟨_,rfl⟩
 have Q:(R=rows.take 4/\0<rows.length)\/(rows=[]/\R=[[]]):=by
  rw[<-hR]
  cases rows with
  |nil=>exact .inr ⟨rfl,rfl⟩
  |cons r l=>exact .inl ⟨rfl,zs⟩
 have X:gi { s with aB:=(R.length:Int) }=S:=by
  rw[<-hS]
  rcases Q with⟨e,_⟩|⟨e1,e2⟩
  ·rw[e]
  ·rw[e1,e2];rfl
 have aE:R.length<=4:=by grind
 have W:S.aB=R.length:=by
  rw[<-X]
  show held (R.length:Int) 1 4=_
  have:0<R.length:=by grind
  unfold held;rw[zn,zn]
 rw[hR]at hK
 simp only[gy,eS,X]at hK
 rw[FL]
 intro l hl
 have Y:l.length=rows.length:=by grind
 refine G.box λq=>?_
 have hc:(if((4:Int)<((l.map (·.1)).length:Int))then 4 else((l.map (·.1)).length:Int))=(((rows.take 4).length:Nat):Int):=by grind
 refine bx hc ?_
 refine G.d6 (m:=(rows.take 4).length) (by rw[zaq,zaC,Y];omega) λtv H af=>bx H ?_
 refine yo (s:={ s with aB:=(rows.take 4).length }) ?_
 rw[hS]
 refine bi ?_
 refine aaX (s:=S.bf) λmp=>?_
 generalize qK S.bf=m0 at hK ⊢
 refine bi ?_
 refine G.box λb=>bi ?_
 refine QW λu hu=>?_
 obtain⟨n,A⟩:∃n,(held S.a0 32 256).toNat=n:=⟨_,rfl⟩
 have aD:32<=n:=by rw[<-A,I,nv zd];omega
 have aG:n<=256:=by rw[<-A,I,nv zd];omega
 rw[A]
 have aA:((List.replicate n (0:Int)).set 5 14).length=n:=by simp
 refine bi ?_
 refine G.a8 (λk:Nat=>i64 k) (λk=>sl i9 u ((List.replicate n 0).set 5 14)::own b (eU.cells ⟨S,m0,[],0,⟨0,0,0,0,⟨0,false,0⟩,⟨0,false,0⟩⟩,false⟩ mp (.slice none 0 0) ⟨0,0,0,0,⟨0,false,0⟩,⟨0,false,0⟩⟩ false)::ob CV mp (tM m0 k)::own q (cv.cells S)::sl jj v (l.map (·.1))::ob (eQ (xy w0)) () l::M)
  (λk=>k<=n) (λk=>n-k) 0 rfl rfl zs ?_
 intro k hk J Z
 refine ca aA ?_
 refine G.cond (λh=>?_) (λh=>?_)
 ·have F:k<n:=by simpa using h
  have x:=Z (k+1) F zo
  by_cases c5:k=5
  ·have e:iW ((List.replicate n (0:Int)).set 5 14) k 14:=⟨by rw[c5,zap (by simp;omega)]⟩
   have ek:tM m0 k=m0/\tM m0 (k+1)=(ag m0 ⟨2,k,0,14,aa,aa⟩).1:=by grind
   rw[ek.2]at x
   rw[ek.1]
   refine bi ?_
   refine Kb (m:=m0) (o:=⟨2,k,0,14,aa,aa⟩) (bi ?_)
   rw[fm zo]
   exact x.sub
  ·have e:iW ((List.replicate n (0:Int)).set 5 14) k 0:=⟨by rw[zai (λg=>c5 g.symm),zaP,zp F]⟩
   have ef:tM m0 (k+1)=tM m0 k:=by grind
   rw[ef]at x
   refine bi ?_
   rw[fm zo]
   exact x.sub
 ·have F:k=n:=by grind
  have ef:tM m0 k=tM m0 6:=by grind
  rw[ef]
  generalize tM m0 6=m1 at hK ⊢
  refine bi ?_
  refine G.a3 lV ?_
  refine tI (f:=qG) ?_
  refine G.a8 (σ:=Nat×List (Nat×bm)×Value) (λz=>i64 z.1) (λz=>ob (eQ qG) () z.2.1::sl lV z.2.2 (z.2.1.map (·.1))::sl i9 u ((List.replicate n 0).set 5 14)::own b (eU.cells ⟨S,m1,[],0,⟨0,0,0,0,⟨0,false,0⟩,⟨0,false,0⟩⟩,false⟩ mp z.2.2 ⟨0,0,0,0,⟨0,false,0⟩,⟨0,false,0⟩⟩ false)::ob CV mp m1::own q (cv.cells S)::sl jj v (l.map (·.1))::ob (eQ (xy w0)) () l::M)
   (λz=>z.1<=R.length/\z.2.1.map (·.2)=l8 S 0 (R.take z.1)/\z.2.1.length=z.1/\ax z.2.2 [z.2.2]) (λz=>R.length-z.1) (0,[],.slice none 0 0) rfl rfl ⟨zag _,rfl,rfl,bj⟩ ?_
  rintro⟨j,t,vt⟩ ⟨hj,w,D,al⟩ J Z
  simp only at hj w D al Z ⊢
  refine ar ?_
  refine G.cond (λh=>?_) (λh=>?_)
  ·have a:j<R.length:=by grind
   by_cases T:j<(rows.take 4).length
   ·have aC:j<rows.length:=by grind
    have aF:R=rows.take 4:=by grind
    have B:l[j]? = some l[j]:=dg zo
    have e:iW (l.map (·.1)) j l[j].1:=⟨by rw[zax,B];rfl⟩
    have O:l[j].2=rows[j]:=by grind
    have hq:R[j]=l[j].2:=by grind
    have U:=hr _ (zae aC)
    have c:(j:Int)<(((rows.take 4).length:Nat):Int):=by omega
    have am:=af j T
    refine bx (an H (an c am)) ?_
    refine G.aJ (eQ (xy w0)) () ?_
    rw[nH B]
    refine Jz (me:=(j:Int)) (s:=S) (jobs:=l[j].2) zo (by rw[V,W];omega) (by rw[O];exact U.1) (by rw[O];exact U.2) λd=>bi ?_
    refine G.build lV [d] rfl zd rfl λy hy=>bi ?_
    refine G.append (E:=lV) (xs:=t.map (λz:Nat×bm=>z.1)) (ys:=[d]) (by simp only[zaq,gg];omega) (by simp only[zaq,gg,maxLen];omega) λu5 h5=>bi ?_
    rw[fm zo]
    have A:=Z (j+1,t++[(d,qQ j S l[j].2)],u5) ⟨a,by rw[zal,w,zaz a,BF,hq,zaC];simp only[zaj,zaL];congr 3;omega,by simp[D],h5⟩ (by simp only;omega)
    simp only[zal,zaj,zaL]at A
    refine aai B ?_
    refine G.ap (As:=[ob kP d (qQ j S l[j].2),ob (eQ qG) () t]) ?_
    rw[show [ob kP d (qQ j S l[j].2),ob (eQ qG) () t]=[qG (d,qQ j S l[j].2),ob (eQ qG) () t]from rfl,Fn,Fn,GT,<-pU]
    exact A.sub
   ·obtain⟨e1,e2⟩:rows=[]/\R=[[]]:=Q.resolve_left λg=>T (by rw[<-g.1];exact a)
    have hq:R[j]=[]:=by grind
    have c:¬(j:Int)<(((rows.take 4).length:Nat):Int):=by omega
    refine bx (an H c) ?_
    refine G.a3 jj ?_
    refine tI (f:=wP w0) ?_
    refine N8 (.slice none 0 0) [] (ps:=[]) (rs:=[]) rfl rfl ?_
    refine Jz (me:=(j:Int)) (s:=S) (jobs:=[]) zo (by rw[V,W];omega) zd zs λd=>bi ?_
    refine G.build lV [d] rfl zd rfl λy hy=>bi ?_
    refine G.append (E:=lV) (xs:=t.map (λz:Nat×bm=>z.1)) (ys:=[d]) (by simp only[zaq,gg];omega) (by simp only[zaq,gg,maxLen];omega) λu5 h5=>bi ?_
    rw[fm zo]
    have A:=Z (j+1,t++[(d,qQ j S [])],u5) ⟨a,by rw[zal,w,zaz a,BF,hq,zaC];simp only[zaj,zaL];congr 3;omega,by simp[D],h5⟩ (by simp only;omega)
    simp only[zal,zaj,zaL]at A
    refine G.ap (As:=[ob kP d (qQ j S []),ob (eQ qG) () t]) ?_
    rw[show [ob kP d (qQ j S []),ob (eQ qG) () t]=[qG (d,qQ j S []),ob (eQ qG) () t]from rfl,Fn,Fn,GT,<-pU]
    exact A.sub
  ·have a:j=R.length:=by grind
   refine ar ?_
   refine tw b ⟨S,m1,l8 S 0 R,0,⟨0,0,0,0,⟨0,false,0⟩,⟨0,false,0⟩⟩,false⟩ mp vt t rfl (by rw[w,a,zbH]) ?_
   have h2:=hK b trivial
   rw[jc,FL]at h2
   exact(h2 l hl).sub
end
end Go.Proofs.YtoealglbimbbmaaGreatDoor.S
