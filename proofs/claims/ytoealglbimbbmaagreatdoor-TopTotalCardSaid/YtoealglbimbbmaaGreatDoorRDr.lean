import Derived.Test.YtoealglbimbbmaaGreatDoorTChk
import Derived.Test.YtoealglbimbbmaaGreatDoorSIn
import Derived.Test.YtoealglbimbbmaaGreatDoorSLink
import Derived.RangeFuncBox
import Derived.Shelf.Abstract
import Derived.WalkKit
import Derived.OwnWalkIn
import Derived.TacticsInMore
import Derived.LoopNIn
import Derived.LoopIn
set_option linter.defProp false
set_option linter.unusedVariables false
set_option linter.unusedSimpArgs false
namespace Go.Proofs.YtoealglbimbbmaaGreatDoor.S
open Go Go.Proofs
def nE:List ay->Int->Option Nat
 | [],_=>none
 |c::cs,a=>if c.J=a then some 0 else(nE cs a).map (·+1)
def Wn (cs:List ay)(a:Int):Int:=match nE cs a with|some k=>k|none=>-1
def ni:List ay->Int->Int->List ay
 | [],a,x=>[⟨a,x⟩]
 |c::cs,a,x=>if c.J=a then⟨a,x⟩::cs else c::ni cs a x
def jy:List ay->Int->Option Int
 | [],_=>none
 |c::cs,a=>if c.J=a then some c.word else jy cs a
def mg (cs l:List ay):List ay:=l.foldl (λcs c=>ni cs c.J c.word) cs
def Gl (a:Int):Bool:=decide (1<=a)&&decide (a<256)
structure SP (cs:List ay):Prop where
 bx:∀c∈cs,Gl c.J=true
 ci:(cs.map (·.J)).Nodup
def acf {c:ay}{cs:List ay}{a:Int}:nE (c::cs) a=if c.J=a then some 0 else(nE cs a).map (·+1):=rfl
def K4 {a:Int}:Gl a=true↔1<=a/\a<256:=by simp[Gl]
theorem nu {a:Int}:∀{cs:List ay},nE cs a=none->(∀x,ni cs a x=cs++[⟨a,x⟩])/\jy cs a=none/\∀c∈cs,c.J≠a
 | [],_=>⟨λ_=>rfl,rfl,zs⟩
 |c::cs,h=>by
  unfold nE at h
  split at h
  ·cases h
  ·rename_i hc
   obtain⟨h1,h2,h3⟩:=nu (cs:=cs) (by simpa using h)
   refine⟨λx=>by simp[ni,hc,h1],by simp[jy,hc,h2],λd hd=>?_⟩
   rcases zaa.1 hd with rfl|hd
   ·exact hc
   ·exact h3 d hd
def tE {a:Int}:∀{cs:List ay}{k:Nat},nE cs a=some k->∃h:k<cs.length,cs[k].J=a/\(∀x,ni cs a x=cs.set k ⟨a,x⟩)/\jy cs a=some cs[k].word
 | [],k,h=>by cases h
 |c::cs,k,h=>by
  unfold nE at h
  split at h
  ·rename_i hc
   cases h
   exact⟨zs,hc,λx=>by simp[ni,hc],by simp[jy,hc]⟩
  ·rename_i hc
   cases hi:nE cs a with
   |none=>rw[hi]at h;cases h
   |some j =>
    rw[hi]at h
    cases h
    obtain⟨h1,h2,h3,h4⟩:=tE hi
    exact⟨by simp;omega,by simpa using h2,λx=>by simp[ni,hc,h3],by simp[jy,hc,h4]⟩
def EO {cs:List ay}{a:Int}:(nE cs a).isSome=(jy cs a).isSome:=by
 cases h:nE cs a with
 |none=>rw[(nu h).2.1];rfl
 |some k=>obtain⟨_,_,_,b⟩:=tE h;rw[b];rfl
theorem EB {cs:List ay}{a x:Int}:(ni cs a x).length=if(nE cs a).isSome then cs.length else cs.length+1:=by
 cases h:nE cs a with
 |none=>simp[(nu h).1]
 |some k=>obtain⟨_,_,b,_⟩:=tE h;simp[b]
def Z0 {cs:List ay}{a x:Int}:cs.length<=(ni cs a x).length/\(ni cs a x).length<=cs.length+1:=by grind[EB]
def Wg {a x:Int}:∀{cs:List ay}{c:ay},c∈ni cs a x->c∈cs\/c.J=a
 | [],c,h=>by simp[ni]at h;subst h;exact .inr rfl
 |d::cs,c,h=>by
  unfold ni at h
  split at h
  ·rcases zaa.1 h with rfl|h
   ·exact .inr rfl
   ·exact .inl (gr _ h)
  ·rcases zaa.1 h with rfl|h
   ·exact .inl zs
   ·rcases Wg h with h|h
    ·exact .inl (gr _ h)
    ·exact .inr h
def MA {a x:Int}:∀{cs:List ay},(ni cs a x).map (·.J)=if(nE cs a).isSome then cs.map (·.J)else cs.map (·.J)++[a]
 | []=>by simp[ni,nE]
 |c::cs=>by
  unfold ni nE
  split
  ·rename_i h;simp[h]
  ·simp only[zaj,MA (cs:=cs),Option.isSome_map]
   split<;>simp
def SP.nil:SP []:=⟨zs,zs⟩
def SP.put {cs:List ay}{a x:Int}(h:SP cs)(j:Gl a=true):SP (ni cs a x):=by
 refine⟨λc d=>?_,?_⟩
 ·rcases Wg d with b|b
  ·exact h.bx c b
  all_goals grind
 ·rw[MA]
  cases e:nE cs a with
  |some k=>simpa using h.ci
  |none =>
   have f:=(nu e).2.2
   simp only[Option.isSome_none,Or,if_false]
   rw[zbl]
   refine⟨h.ci,zs,λp i q g=>?_⟩
   grind
theorem SS {a x b:Int}:∀{cs:List ay},jy (ni cs a x) b=if a=b then some x else jy cs b
 | []=>by simp[ni,jy]
 |c::cs=>by
  unfold ni
  by_cases hc:c.J=a
  ·simp only[hc,if_true,jy]
   by_cases hb:a=b<;>simp[hb]
  ·simp only[hc,if_false,jy,SS (cs:=cs)]
   by_cases hb:a=b
   ·subst hb;simp[hc]
   ·simp[hb]
def B3 {cs l:List ay}{c:ay}:mg cs (c::l)=mg (ni cs c.J c.word) l:=rfl
def SP.b2:∀{l cs:List ay},SP cs->(∀c∈l,Gl c.J=true)->SP (mg cs l)
 | [],cs,h,_=>h
 |c::l,cs,h,hl=>by rw[B3];exact SP.b2 (h.put (hl c zs)) (λd hd=>hl d (by simp[hd]))
def Sy:∀{l cs:List ay},((cs++l).map (·.J)).Nodup->mg cs l=cs++l
 | [],cs,_=>by simp[mg]
 |c::l,cs,h=>by
  have hi:nE cs c.J=none:=by
   cases hi:nE cs c.J with
   |none=>rfl
   |some k =>
    obtain⟨a,b,_⟩:=tE hi
    rw[zal,zbl]at h
    exact absurd b (h.2.2 _ (zau.2 ⟨cs[k],zae a,rfl⟩) _ zs)
  rw[B3,(nu hi).1,Sy (by simpa using h)]
  simp
def SP.eR {cs:List ay}(h:SP cs):mg [] cs=cs:=by rw[Sy (by simpa using h.ci)];rfl
def Ko:∀{l cs:List ay},cs.length<=(mg cs l).length/\(mg cs l).length<=cs.length+l.length
 | [],cs=>by simp[mg]
 |c::l,cs=>by
  have h1:=Ko (l:=l) (cs:=ni cs c.J c.word)
  have h2:=Z0 (cs:=cs) (a:=c.J) (x:=c.word)
  rw[B3];simp only[zad];omega
def aa7 {cs:List ay}{a:Int}{k:Nat}(h:k<cs.length)(b:nE cs a=(nE (cs.drop k) a).map (·+k)) :
  (cs[k].J=a->nE cs a=some k)/\(cs[k].J≠a->nE cs a=(nE (cs.drop (k+1)) a).map (·+(k+1))):=by
 rw[zav h,acf]at b
 refine⟨λe=>by rw[b,zp e];simp,λe=>?_⟩
 rw[b,zn e,Option.map_map]
 congr 1
 grind
def rO (most:Int)(cs:List ay)(a:Int):Int:=if Gl a then(if(nE cs a).isSome then 0 else if most<=cs.length then 5 else 0)else 2
def pL (most:Int):List ay->List ay->List ay×Int
 |cs,[]=>(cs,0)
 |cs,c::l=>if rO most cs c.J=0 then pL most (ni cs c.J c.word) l else(cs,rO most cs c.J)
def YP {most:Int}{cs l:List ay}{c:ay}:pL most cs (c::l)=if rO most cs c.J=0 then pL most (ni cs c.J c.word) l else(cs,rO most cs c.J):=rfl
def rm (most:Int)(cs l:List ay):List ay×Int:=if(pL most cs l).2=0 then((pL most cs l).1,0)else(cs,(pL most cs l).2)
theorem PL {most:Int}:∀{l cs:List ay},(pL most cs l).2=0->(pL most cs l).1=mg cs l
 | [],cs,_=>rfl
 |c::l,cs,h=>by
  unfold pL at h ⊢
  split at h
  ·rename_i h0;rw[zp h0,B3];exact PL h
  ·rename_i h0;exact absurd h h0
theorem Ql {most:Int}:∀{l cs:List ay},(∀c∈l,Gl c.J=true)->(cs.length+l.length:Int)<=most->(pL most cs l).2=0
 | [],cs,_,_=>rfl
 |c::l,cs,h,hl=>by
  simp only[zad]at hl
  have h0:rO most cs c.J=0:=by
   unfold rO
   rw[zp (h c zs)]
   split
   ·rfl
   ·rw[zn]
  unfold pL
  rw[zp h0]
  have:=Z0 (cs:=cs) (a:=c.J) (x:=c.word)
  exact Ql (λd b=>h d (by simp[b])) zo
def BT {most:Int}{l cs:List ay}(h:∀c∈l,Gl c.J=true)(a:(cs.length+l.length:Int)<=most):rm most cs l=(mg cs l,0):=by grind[Ql,rm,PL]
structure Sn (most:Int)(cs:List ay):Prop where
 lo:0<=most
 hi:most<=96
 len:(cs.length:Int)<=most
 ok:SP cs
def Sn.put {most:Int}{cs:List ay}{a x:Int}(h:Sn most cs)(b:rO most cs a=0):Sn most (ni cs a x):=by
 unfold rO at b
 split at b
 ·rename_i c
  refine⟨h.lo,h.hi,?_,h.ok.put c⟩
  rw[EB]
  have:=h.len
  grind
 ·cases b
def Sn.b2 {most:Int}:∀{l cs:List ay},Sn most cs->Sn most (pL most cs l).1
 | [],cs,h=>h
 |c::l,cs,h=>by
  unfold pL
  split
  ·rename_i h0;exact Sn.b2 (h.put h0)
  ·exact h
def Sn.take {most:Int}{cs l:List ay}(h:Sn most cs):Sn most (rm most cs l).1:=by
 unfold rm
 split
 ·exact h.b2
 ·exact h
def kN (b:Nat)(s:Int×List ay):bg:=pz λv=>cj (kx (ax v [v]/\Sn s.1 s.2)) (cj (own b [i64 s.1,v]) (sl cg v s.2))
section
variable {w0:bz}{L M:List bg}{K:KV}{F:World->Prop}{C:bg->List bg}{b:Nat}{most a x:Int}{cs l:List ay}
def iS {s:Int×List ay}:G w0 (ob kN b s::M) F=∀v,(ax v [v]/\Sn s.1 s.2)->G w0 (own b [i64 s.1,v]::sl cg v s.2::M) F:=by
 rw[iw,kN]
 simp only[pM,im,jk]
def G.fC [i:ae L kN b (most,cs) C](h:Sn most cs->G w0 L F):G w0 L F:=by
 by_cases a:Sn most cs
 ·exact h a
 ·refine i.ro (F':=λ_=>True) (λM _=>?_) (λ_ _=>trivial)
  rw[iS]
  exact λv c=>absurd c.2 a
def BX {n:Int}(hK:∀b,G w0 (ob kN b (held n 0 96,[])::L) (K (ptr b 0))):G w0 L (ac 201 [i64 n] K):=by
 refine Vb ?_
 unfold Km
 refine ar ?_
 have a:=jp (n:=n) (show(0:Int)<=96 by omega)
 have c:(if(if(96:Int)<n then(96:Int)else n) > 0 then(if(96:Int)<n then(96:Int)else n)else 0)=held n 0 96:=by
  unfold held;split<;>split<;>split<;>(try split)<;>omega
 rw[c]
 refine G.a3 cg ?_
 refine G.box λb=>?_
 have:=hK b
 rw[iS]at this
 exact this _ ⟨bj,a.1,a.2,by simpa using a.1,.nil⟩
def NY {c:ay}{q:Nat}{C:bg->List bg}[i:ae L lW q [i64 a] C](hK:G w0 L (K (.bool (decide (c.J=a))))):G w0 L (ac 338 [.agg (ay.cells c).toArray,ptr q 0] K):=by
 refine Cc ?_
 unfold rD
 refine G.box λp=>ar ?_
 exact hK.sub
def Xm {v:Value}{q:Nat}[r:Rd w0 L v cg 2 cs][i:ae L lW q [i64 a] C](l:cs.length<=1000000)(hK:G w0 L (K (i64 (Wn cs a)))) :
  G w0 L (ac 337 [v,.func (.func 338) #[] #[ptr q 0]] K):=by
 refine px ?_
 unfold kI
 refine ar ?_
 refine G.a8 (λk:Nat=>i64 k) (λ_=>L) (λk=>k<=cs.length/\nE cs a=(nE (cs.drop k) a).map (·+k)) (λk=>cs.length-k) 0 rfl rfl ⟨zo,zs⟩ ?_
 rintro k ⟨j,d⟩ J hJ
 refine ar ?_
 refine G.cond (λh=>?_) (λh=>?_)
 ·have b:k<cs.length:=by simpa using h
  have e:=dm b
  obtain⟨f,g⟩:=aa7 b d
  refine ar ?_
  refine NY (c:=cs[k]) (a:=a) ?_
  refine G.cond (λh=>?_) (λh=>?_)
  ·unfold Wn at hK
   rw[f (by simpa using h)]at hK
   exact hK
  ·refine ar ?_
   rw[fm zo]
   exact hJ (k+1) ⟨b,g (by simpa using h)⟩ zo
 ·have:cs.drop k=[]:=zaB (by simpa using h)
  rw[this]at d
  unfold Wn at hK
  rw[d]at hK
  exact hK
def tY [i:ae L kN b (most,cs) C](hK:G w0 L (K (i64 (Wn cs a)))):G w0 L (ac 272 [ptr b 0,i64 a] K):=by
 refine i.ro (λM hK=>?_) hK
 refine EK ?_
 unfold tZ
 rw[iS]at *
 rintro v ⟨d,c⟩
 have e:(cs.length:Int)<=most:=c.len
 have f:most<=96:=c.hi
 refine G.box λq=>ar ?_
 refine Xm (cs:=cs) zo ?_
 exact(hK v ⟨d,c⟩).sub
def Su {k:Nat}(h:nE cs a=some k):Wn cs a=k:=by grind[Wn]
def Sp (h:nE cs a=none):Wn cs a=-1:=by grind[Wn]
def OD (cs:List ay)(a:Int):Value:=match jy cs a with|some x=>.tuple #[u64 x,.bool true]|none=>.tuple #[u64 0,.bool false]
def vY [i:ae L kN b (most,cs) C](hK:G w0 L (K (OD cs a))):G w0 L (ac 269 [ptr b 0,i64 a] K):=by
 refine F6 ?_
 unfold wE
 refine tY (cs:=cs) (most:=most) ?_
 cases c:nE cs a with
 |none =>
  have:=(nu c).2.1
  simp only[OD,this]at hK
  rw[Sp c]
  refine ar ?_
  exact hK
 |some k =>
  obtain⟨d,_,_,h⟩:=tE c
  simp only[OD,h]at hK
  rw[Su c]
  have g:decide (0<=(k:Int))=true:=by simp
  have e:=dm d
  refine i.ro (λM hK=>?_) hK
  rw[iS]at *
  intro v f
  have hK:=hK v f
  refine ca g ?_
  exact hK
def py [i:ae L kN b (most,cs) C](hK:G w0 (C (ob kN b (most,if rO most cs a=0 then ni cs a x else cs))) (K (i64 (rO most cs a)))):G w0 L (ac 234 [ptr b 0,i64 a,u64 x] K):=by
 refine i.bi (λM hK=>?_) hK
 refine Gx ?_
 unfold wh
 refine mK ?_
 refine ar ?_
 refine G.cond (λh=>?_) (λh=>?_)
 ·have c:rO most cs a=2:=by unfold rO;rw[if_neg];rw[K4];simp at h;omega
  rw[c]at hK
  exact hK
 ·have l:Gl a=true:=by rw[K4];simp at h;omega
  refine tY (cs:=cs) (most:=most) ?_
  cases f:nE cs a with
  |none =>
   rw[Sp f]
   have r:=(nu f).1 x
   rw[iS]
   rintro v ⟨m,g⟩
   have t:(cs.length:Int)<=most:=g.len
   have w:most<=96:=g.hi
   by_cases j:most<=cs.length
   ·have c:rO most cs a=5:=by unfold rO;rw[if_pos l,f];simp[j]
    rw[c,if_neg (by decide),iS]at hK
    refine bx j ?_
    exact hK v ⟨m,g⟩
   ·have c:rO most cs a=0:=by unfold rO;rw[if_pos l,f];simp[j]
    have d:=g.put (x:=x) c
    rw[c,if_pos rfl,iS]at hK
    refine bx j ?_
    refine G.bM (E:=cg) (a:=⟨a,x⟩) rfl rfl (by decide) (by omega) (by simp only[maxLen];omega) λu p=>?_
    refine ar ?_
    have hK:=hK u ⟨p,d⟩
    simp only[r]at hK
    exact hK
  |some k =>
   obtain⟨q,o,n,_⟩:=tE f
   have c:rO most cs a=0:=by unfold rO;rw[if_pos l,f];simp
   rw[Su f]
   have s:decide (0<=(k:Int))=true:=by simp
   have e:=dm q
   rw[iS]
   rintro v ⟨m,g⟩
   have d:=g.put (x:=x) c
   rw[c,if_pos rfl,iS]at hK
   have hK:=hK v ⟨m,d⟩
   simp only[n]at hK
   refine ca s ?_
   rw[o]
   exact hK
def kK [i:ae L kN b (most,cs) C](hK:∀u,ax u [u]->G w0 (sl cg u cs::L) (K u)):G w0 L (ac 203 [ptr b 0] K):=by
 refine i.cb (λM hK=>?_) hK
 rw[iS]
 rintro v ⟨c,a⟩
 have f:(cs.length:Int)<=most:=a.len
 have e:most<=96:=a.hi
 refine GI ?_
 unfold we
 refine ar ?_
 refine iQ (xs:=cs) zo λu d=>?_
 have:=hK u d
 rw[jc,iS]at this
 exact G.sub (this v ⟨c,a⟩)
def Gn [i:ae L kN b (most,cs) C](hK:G w0 L (K (i64 cs.length))):G w0 L (ac 368 [ptr b 0] K):=by
 refine i.ro (λM hK=>?_) hK
 rw[iS]at *
 intro v a
 refine Gj ?_
 unfold wc
 refine ar ?_
 exact hK v a
def Yd {k:Nat}{z:List ay}(a:k<l.length)(b:pL most cs l=pL most z (l.drop k)) :
  (rO most z l[k].J=0->pL most cs l=pL most (ni z l[k].J l[k].word) (l.drop (k+1)))/\(rO most z l[k].J≠0->pL most cs l=(z,rO most z l[k].J)):=by
 rw[zav a,YP]at b
 grind
def lL {v:Value}[i:ae L kN b (most,cs) C][r:∀A,Rd w0 (C A) v cg 2 l](B:l.length<=1000000)
  (hK:G w0 (C (ob kN b (most,(rm most cs l).1))) (K (i64 (rm most cs l).2))):G w0 L (ac 202 [ptr b 0,v] K):=by
 refine G.fC (b:=b) (most:=most) (cs:=cs) λw=>?_
 refine i.d5 (λM m hK=>?_) hK
 have x:=Rd.dp m r
 refine EZ ?_
 unfold uH
 refine kK (cs:=cs) (most:=most) λu n=>ar ?_
 refine G.a8 (σ:=Nat×List ay) (λs=>i64 s.1) (λs=>sl cg u cs::ob kN b (most,s.2)::M) (λs=>s.1<=l.length/\pL most cs l=pL most s.2 (l.drop s.1)) (λs=>l.length-s.1) (0,cs) rfl rfl ⟨zs,zs⟩ ?_
 rintro⟨k,z⟩ ⟨p,d⟩ J hJ
 simp only at p d hJ ⊢
 refine ar ?_
 refine G.cond (λh=>?_) (λh=>?_)
 ·have a:k<l.length:=by simpa using h
  have e:=dm a
  obtain⟨g,j⟩:=Yd a d
  refine ar ?_
  refine G.new λq=>ar ?_
  refine py (cs:=z) (most:=most) (ar ?_)
  refine G.cond (λh=>?_) (λh=>?_)
  ·have c:rO most z l[k].J≠0:=by simpa using h
   have o:=j c
   rw[zn c]
   have f:rm most cs l=(cs,rO most z l[k].J):=by
    unfold rm;rw[o];simp[c]
   rw[f,iS]at hK
   refine G.aJ kN b ?_
   rw[iS]
   rintro y ⟨t,_⟩
   refine ar ?_
   exact(hK u ⟨n,w⟩).sub
  ·have c:rO most z l[k].J=0:=by simpa using h
   rw[zp c]
   refine ar ?_
   rw[fm zo]
   exact(hJ (k+1,ni z l[k].J l[k].word) ⟨a,g c⟩ (by simp;omega)).sub
 ·have:l.drop k=[]:=zaB (by simpa using h)
  rw[this]at d
  have f:rm most cs l=(z,0):=by
   unfold rm;rw[d];simp[pL]
  rw[f]at hK
  exact hK.sub
end
end Go.Proofs.YtoealglbimbbmaaGreatDoor.S
namespace Go.Proofs.YtoealglbimbbmaaGreatDoor.S
open Go Go.Proofs Go.RowKit
section
variable {w0:bz}{L:List bg}
def St.dr {A B:World}{row:Option Nat}(H:St w0 L A)(g:A.grownBy B row)(q:∀r,row=some r->w0.w.heap.size<=r/\(∃o,A.heap[r]? = some o/\o.isCells=false)/\w0.bp r=none):St w0 L B:=by
 obtain⟨h,t,a⟩:=H
 have f:∀k o,A.heap[k]? = some o->some k≠row->B.heap[k]? = some o:=λk o j d=>by rw[g.block k (zaQ.1 j).1 d];exact j
 refine⟨h,t,⟨g.os.trans a.step.os,g.tape.trans a.step.tape,g.output.trans a.step.output,za5 a.step.size g.size,λk j _=>?_⟩,λb n l=>?_,λb o l=>?_,za5 a.min g.size⟩
 ·rw[g.block k (zbs j a.step.size) (λe=>by have:=(q k e.symm).1;omega)]
  exact a.step.block k j zs
 ·obtain⟨m,c,p⟩:=a.cell b n l
  have d:some b≠row:=λe=>by
   obtain⟨_,⟨o,s,u⟩,_⟩:=q b e.symm
   unfold mem at c
   rw[s]at c
   cases o<;>first|(exact absurd (show(none:Option (List Value))=some n from c) zs)|(exact absurd (show true=false from u) zs)
  have i:=g.block b (Ci c) d
  exact⟨m,by unfold mem at c ⊢;rw[i];exact c,by unfold opn at p ⊢;rw[i];exact p⟩
 ·obtain⟨m,c⟩:=a.b4 b o l
  exact⟨f b o m (λe=>by have:=(q b e.symm).2.2;rw[l]at this;cases this),c⟩
def St.with {W:World}{k:Nat->Option Obj}{m:Nat}(H:St w0 L W)(g:∀b o,k b=some o->W.heap[b]? = some o/\o.isCells=false)(i:m<=W.heap.size):St (w0.with k m) L W:=by
 obtain⟨h,d,a⟩:=H
 refine⟨h,d,a.step,a.cell,λb o c=>?_,by have:=a.min;simp only[bz.with];omega⟩
 simp only[bz.with]at c
 split at c
 ·rename_i f e;cases c;exact a.b4 b o e
 ·exact g b o c
def St.c9 {W:World}{k:Nat->Option Obj}{m:Nat}(H:St (w0.with k m) L W):St w0 L W:=by
 obtain⟨h,c,a⟩:=H
 exact⟨h,c,a.step,a.cell,λb o d=>a.b4 b o (by simp only[bz.with,d]),by have:=a.min;simp only[bz.with]at this;omega⟩
def St.ek {W:World}{k:Nat->Option Obj}{m b:Nat}{o:Obj}(H:St (w0.with k m) L W)(hb:w0.bp b=none)(d:k b=some o):W.heap[b]? = some o:=by
 obtain⟨h,c,a⟩:=H
 exact(a.b4 b o (by simp only[bz.with,hb];exact d)).1
def St.eQ {W:World}{k:Nat->Option Obj}{m:Nat}(H:St (w0.with k m) L W):m<=W.heap.size:=by
 obtain⟨h,b,a⟩:=H
 have:=a.min
 simp only[bz.with]at this
 omega
def St.ew {W:World}(H:St w0 L W){b:Nat}(hb:W.heap.size<=b):w0.bp b=none:=by
 obtain⟨h,c,a⟩:=H
 cases e:w0.bp b with
 |none=>rfl
 |some o =>
  have:=(zaQ.1 (a.b4 b o e).1).1
  omega
def ab_ {W:World}{v:Value}{rows:List Nat}(h:ki lV W v rows):BR W v rows:=by
 obtain⟨j,b,d,m,c⟩:=h
 refine⟨j,b,d,λi p k=>?_⟩
 obtain⟨e,o,a,l,g,n,f⟩:=c i p k
 refine⟨e,o,a,l,g,?_⟩
 have:((a.drop (o+i*1)).take 1)[0]? = some (ptr p 0):=by rw[show(a.drop (o+i*1)).take 1=[ptr p 0]from f];rfl
 rw[zbh]at this
 simpa using this
def G.c9 {F:World->Prop}{k:Nat->Option Obj}{m:Nat}(h:G w0 L F):G (w0.with k m) L F:=λW H=>h W H.c9
def G.fm {gf c:Nat}{v:Value}{rows:List Nat}(S T:List (Fin rows.length)->List bg){Y:(World->Prop)->(World->Prop)->Value->Value->World->Prop}{done Z:KV->World->Prop}{K:KV}(N:rows.length<=1000000)
  (I:∀pre W,St w0 (S pre) W->mem W c=some [v]/\ki lV W v rows) (V:∀W,St w0 L W->St w0 (S []) W)
  (M:∀k m pre (i:Fin rows.length) (J R:World->Prop),G (w0.with k m) (S (pre++[i])) J->G (w0.with k m) (T (pre++[i])) R->G (w0.with k m) (S pre) (Y J R (i64 i.1) (ptr rows[i.1] 0)))
  (hd:∀k m (K':KV),(∀v L',G w0 L' (K v)->G (w0.with k m) L' (K' v))->G (w0.with k m) (S (pD rows.length)) (done K'))
  (X:∀k m (K':KV) pre,pre <+: pD rows.length->(∀v L',G w0 L' (K v)->G (w0.with k m) L' (K' v))->G (w0.with k m) (T pre) (Z K')) :
  G w0 L (J9 gf (.func (.func gf) #[] #[ptr c 0]) Y done Z K):=by
 intro w H
 have n:∀r,w.heap.size<=r->w0.bp r=none:=λr M=>H.ew M
 have t:w0.w.heap.size<=w.heap.size:=H.step.size
 have own:∀(f:List (Fin rows.length)->List bg),OwnFrom w.heap.size (λpre W=>St w0 (f pre) W):=λf s A B O d Q j =>
  d.dr Q (λr e=>⟨za5 t (j r e).1,(j r e).2,n r (j r e).1⟩)
 have p:∀D (W:World),w.heap.size<=D->W.heap[D]? = some (.deferred (some []))->∀(f:List bg),St w0 f W->∃k m,St (w0.with k m) f W/\∀v L',G w0 L' (K v)->G (w0.with k m) L' (R6 D K v):=λD W q u f d=>by
  refine⟨λb=>if b=D then some (.deferred (some []))else none,0,d.with (λb o a=>?_) (zag _),λv L' E l g=>?_⟩
  ·split at a
   ·rename_i e;subst e;cases a;exact⟨u,rfl⟩
   ·cases a
  ·have x:l.heap[D]? = some (.deferred (some [])):=g.ek (n D q) zs
   exact⟨x,E _ (g.c9.dr (grownBy_putObj' l D (.deferred none)) (λr e=>by cases e;exact⟨za5 t q,⟨_,x,rfl⟩,n D q⟩))⟩
 refine⟨c,v,rows,λpre W=>St w0 (S pre) W,λpre W=>St w0 (T pre) W,rfl,N,own S,own T,λpre W d=>⟨(I pre W d).1,ab_ (I pre W d).2⟩,V w H,λpre i W d=>?_,λD W q d u=>?_,λpre D W q P d u=>?_⟩
 ·let k:Nat->Option Obj:=λb=>if w.heap.size<=b then(match W.heap[b]? with|some o=>if o.isCells=false then some o else none|none=>none)else none
  have E:∀b o,k b=some o->W.heap[b]? = some o/\o.isCells=false:=λb o a=>by
   simp only[k]at a
   split at a
   ·split at a
    ·rename_i U z
     split at a
     ·rename_i F;cases a;exact⟨z,F⟩
     ·cases a
    ·cases a
   ·cases a
  have h:∀{L':List bg} (l:World),St (w0.with k W.heap.size) L' l->KeepsFrom w.heap.size W l:=λl g=>⟨g.eQ,λb o a z F=>g.ek (n b a) (by simp only[k,zp a,z,zp F])⟩
  exact M k W.heap.size pre i _ _ (λl g=>⟨h l g,g.c9⟩) (λl g=>⟨h l g,g.c9⟩) W (d.with E (LT _))
 ·obtain⟨k,m,C,y⟩:=p D W q u _ d
  exact hd k m _ y W C
 ·obtain⟨k,m,C,y⟩:=p D W q u _ d
  exact X k m _ pre P y W C
def Y3 {p:Prop}{w:World}:St w0 (kx p::L) w↔p/\St w0 L w:=by
 constructor
 ·rintro⟨h,⟨a,b,⟨c,i⟩,hb,j⟩,d⟩
  exact⟨c,b,hb,d.sub j.right⟩
 ·rintro⟨c,h,g,d⟩
  have:cj X3 (fg L) h:=by rw[xC];exact g
  obtain⟨a,b,e,f,j⟩:=this
  exact⟨h,⟨a,b,⟨c,e⟩,f,j⟩,d⟩
def G.em {gf c:Nat}{v:Value}{rows:List Nat}(l q:List (Fin rows.length)->List bg)(P n:List (Fin rows.length)->Prop){s:(World->Prop)->(World->Prop)->Value->Value->World->Prop}{done t:KV->World->Prop}{K:KV}(g:rows.length<=1000000)
  (h:∀pre W,St w0 (l pre) W->mem W c=some [v]/\ki lV W v rows) (j:l []=L) (o:P [])
  (p:∀k m pre (i:Fin rows.length) (J R:World->Prop),P pre->(P (pre++[i])->G (w0.with k m) (l (pre++[i])) J)->(n (pre++[i])->G (w0.with k m) (q (pre++[i])) R)->G (w0.with k m) (l pre) (s J R (i64 i.1) (ptr rows[i.1] 0)))
  (hd:∀k m (K':KV),P (pD rows.length)->(∀v L',G w0 L' (K v)->G (w0.with k m) L' (K' v))->G (w0.with k m) (l (pD rows.length)) (done K'))
  (r:∀k m (K':KV) pre,pre <+: pD rows.length->n pre->(∀v L',G w0 L' (K v)->G (w0.with k m) L' (K' v))->G (w0.with k m) (q pre) (t K')) :
  G w0 L (J9 gf (.func (.func gf) #[] #[ptr c 0]) s done t K):=by
 refine G.fm (λpre=>kx (P pre)::l pre) (λpre=>kx (n pre)::q pre) g (λpre W H=>h pre W (Y3.1 H).2) (λW H=>Y3.2 ⟨o,by rw[j];exact H⟩) (λk m pre i J R f e=>?_) (λk m K' b=>?_) (λk m K' pre a b=>?_)
 ·rw[jk]at f e ⊢
  exact λa=>p k m pre i J R a f e
 ·rw[jk]
  exact λa=>hd k m K' a b
 ·rw[jk]
  exact λd=>r k m K' pre a d b
def aaN {α:Type}{l:List α}{n:Nat}(f:Nat->α)(d:n=l.length)(c:∀i x,l[i]? = some x->f i=x):(pD n).map (λi=>f i.1)=l.reverse:=by
 subst d
 unfold pD
 rw[List.map_reverse]
 congr 1
 apply zbZ
 ·simp
 ·intro i b a
  simp only[List.getElem_map,List.getElem_finRange]
  exact c _ _ (dg a)
end
end Go.Proofs.YtoealglbimbbmaaGreatDoor.S
namespace Go.Proofs.YtoealglbimbbmaaGreatDoor.S
open Go Go.Proofs Go.RowKit Go.Shelf
set_option maxRecDepth 100000
 attribute [local go_sem] Oper.semAt_some
def Qs {n:Nat}(j:Nat)(hj:j<n):(pD n).take (n-j)=(pD n).take (n-(j+1))++[(⟨j,hj⟩:Fin n)]:=by
 have h:(pD n)[n-(j+1)]? = some ⟨j,hj⟩:=by
  unfold pD
  rw[List.getElem?_reverse (by simp;omega)]
  simp
  have:n-1-(n-(j+1))=j:=by omega
  simp[this,hj]
 rw[show n-j=(n-(j+1))+1 by omega,zaV,h]
 rfl
def KpB.refl (c:Nat)(v:Value)(rows:List Nat)(W:World):KpB c v rows W W:=⟨λh=>h,λh=>h⟩
set_option maxRecDepth 100000 in
set_option maxHeartbeats 4000000 in
def Zi:YC Tryz.prog 233:=by
 intro m c v rows w0 hc0 hp0 hlen l J Jx W hW hJ hJx hY h0
 refine callsIn_of_wp Tryz.func233 rfl trivial ?_ rfl
 simp only[Tryz.ntmps233,zcc,zad,List.length_nil,Nat.reduceAdd,Nat.reduceSub,Array.replicate_succ,Array.replicate_zero,List.push_toArray,List.append_toArray,GT,Fn]
 have bel:∀{A B:World},Below w0.heap.size A B->∀b cs,b<w0.heap.size->mem A b=some cs->mem B b=some cs:=λh b cs hb hm=>by
  obtain⟨_,_,_,_,hbk⟩:=h
  unfold mem at hm ⊢;rw[hbk b hb];exact hm
 have hcW:mem W c=some [v]:=bel hW c _ (Ci hc0) hc0
 have hpW:BR W v rows:=by
  obtain⟨oa,cap,h1,h2⟩:=hp0
  refine⟨oa,cap,h1,λi p hp=>?_⟩
  obtain⟨b,o,cs,g1,g2,g3⟩:=h2 i p hp
  exact⟨b,o,cs,g1,bel hW b _ (Ci g2) g2,g3⟩
 obtain⟨oa,cap,rfl,hrows⟩:=id hpW
 have hcell0:W.cell? ⟨c,0,none⟩=some (.slice oa rows.length cap):=by rw[ry hcW];rfl
 have wlen:IntKind.wrap .i64 ((rows.length:Int)-1)=(rows.length:Int)-1:=Go.IntWalk.i64_in _ ⟨zo,zo⟩
 gi_wp2
 gi_loopw [3] (λi wr=>∃j:Nat,j<=rows.length/\i=.int .i64 ((j:Int)-1)/\J ((pD rows.length).take (rows.length-j)) wr/\KpB c (.slice oa rows.length cap) rows W wr)
  (λi _=>(intOf i+1).toNat)
 case atStart=>exact⟨rows.length,LT _,rfl,by simpa using h0,KpB.refl _ _ _ _⟩
 case round =>
  obtain⟨j,hj,rfl,hJs,hkp⟩:=hrel
  have hcellr:wr.cell? ⟨c,0,none⟩=some (.slice oa rows.length cap):=by rw[ry (hkp.1 hcW)];rfl
  cases j with
  |zero =>
   have ej:((0:Nat):Int)-1=-1:=rfl
   rw[ej]
   gi_wp2
   go_end0
   refine⟨⟨_,rfl⟩,.inl ⟨_,rfl,?_⟩⟩
   rw[zch,zat (by simp[pD])]at hJs
   exact hJs
  |succ k =>
   have ej:((k+1:Nat):Int)-1=k:=by omega
   rw[ej]
   have hk:k<rows.length:=by omega
   obtain⟨_,_,e1,hrr⟩:=hkp.2 hpW
   obtain⟨b,o,cs,hoa,hm,hx⟩:=hrr k rows[k] (dg hk)
   cases e1
   subst hoa
   have hcellx:wr.cell? ⟨b,o+k,none⟩=some (.pointer (some ⟨rows[k],0,none⟩)):=by rw[ry hm];exact hx
   obtain⟨fn,tmps,assign,body,hy,hR⟩:=hY _ ⟨k,hk⟩ wr hJs (by simp[pD];omega)
   dsimp only at hy
   have hk0:(0:Int)<=k:=by omega
   have hkI:(k:Int)<rows.length:=by omega
   have wk:IntKind.wrap .i64 ((k:Int)-1)=(k:Int)-1:=Go.IntWalk.i64_in _ ⟨zo,zo⟩
   gi_wp2
   refine⟨λh=>(by cases h),hR.mono ?_⟩
   rintro e W3 (⟨rfl,hJ3,hk3⟩|⟨rfl,hJx3⟩)
   ·gi_wp2
    go_roundw
    case rel=>exact⟨k,zo,by simp[wk],by rw[Qs k hk];exact hJ3,⟨λh=>hk3.1 (hkp.1 h),λh=>hk3.2 (hkp.2 h)⟩⟩
    case measure=>simp[intOf,wk]
   ·gi_wp2
    refine bodyPost_ret (results_none rfl _ _ _) rfl ?_
    refine⟨⟨_,rfl⟩,.inr ⟨_,?_,hJx3⟩⟩
    rw[<-Qs k hk]
    exact List.take_prefix _ _
def ML:∀(args:Array Value)(w:World),(callFunc 233 args).run Tryz.prog w=.ok (.enter 233 args) w:=enters_of Tryz.func233 (by kernel_rfl) rfl
def Dh (a0:Value)(K:KV)(w:World):nC a0 K w=Ur Y0 sQ 233 Tryz.f173 [a0] K w:=by kernel_rfl
def Db {a0:Value}{K:KV}{w0:bz}{L:List bg}(h:G w0 L (lr a0 K)):G w0 L (ac 173 [a0] K):=λw hw=>J1 YW sQ Zi ML Tryz.func173 (by kernel_rfl) (Eq.mp (Dh a0 K w) (Eq.mp (congrFun (C6 a0 K) w) (h w hw)))
def GD (a0 a:Value)(K:KV)(w:World):pu a0 a K w=Ur Y0 wv 233 Tryz.f231 [a0,a] K w:=by kernel_rfl
def GG {a0 a1:Value}{K:KV}{w0:bz}{L:List bg}(h:G w0 L (ma a0 a1 K)):G w0 L (ac 231 [a0,a1] K):=λw hw=>J1 YW wv Zi ML Tryz.func231 (by kernel_rfl) (Eq.mp (GD a0 a1 K w) (Eq.mp (congrFun (Gk a0 a1 K) w) (h w hw)))
end Go.Proofs.YtoealglbimbbmaaGreatDoor.S
namespace Go.Proofs.YtoealglbimbbmaaGreatDoor.S
open Go Go.Proofs
structure Lv where
 c:List ay
 f:List Int
structure oe where
 a1:Int
 r:Lv
 up:List Lv
def yf:List Lv->Int->Option Int
 | [],_=>none
 |r::l,a=>match jy r.c a with|some x=>some x|none=>yf l a
def iY (l:List Lv):Nat:=(l.map (·.c.length)).sum
def kw (l:List Lv):List Int:=l.flatMap (·.f)
structure A4 (s:oe):Prop where
 lo:0<=s.a1
 hi:s.a1<=96
 len:(iY (s.r::s.up):Int)<=s.a1
 dm:s.up.length<6
 ok:∀r∈s.r::s.up,SP r.c
abbrev oe.room (s:oe):Int:=s.a1-(iY (s.r::s.up):Int)
def qU (s:oe)(a:Int):Int:=if Gl a then(if(nE s.r.c a).isSome then 0 else if s.room=0 then 5 else 0)else 2
def oe.put (s:oe)(a x:Int):oe:=⟨s.a1,⟨ni s.r.c a x,s.r.f⟩,s.up⟩
def nT:oe->List ay->oe×Int
 |s,[]=>(s,0)
 |s,c::l=>if qU s c.J=0 then nT (s.put c.J c.word) l else(s,qU s c.J)
def vU (s:oe)(l:List ay):oe×Int:=if(nT s l).2=0 then((nT s l).1,0)else(s,(nT s l).2)
def sB (s:oe):oe×Int:=match s.up with
 | []=>(s,10)
 |q::up=>(⟨s.a1,⟨mg q.c s.r.c,q.f++s.r.f⟩,up⟩,0)
def ky (s:oe):oe×Int:=match s.up with
 | []=>(s,10)
 |q::up=>(⟨s.a1,q,up⟩,0)
def ru (s:oe):oe×Int:=if 6<=s.up.length+1 then(s,9)else(⟨s.a1,⟨[],[]⟩,s.r::s.up⟩,0)
def oe.free (s:oe)(n:Int):oe:=⟨s.a1,⟨s.r.c,s.r.f++[n]⟩,s.up⟩
def oe.cells (s:oe):List ay:=s.up.foldl (λout q=>mg q.c out) s.r.c
def oe.aH (s:oe):List Int:=kw (s.up.reverse++[s.r])
theorem il {r:Lv}{l:List Lv}:iY (r::l)=r.c.length+iY l:=by simp[iY]
def tG {l a:List Lv}:iY (l++a)=iY l+iY a:=by simp[iY]
def QO {l:List Lv}:iY l.reverse=iY l:=by
 induction l with
 |nil=>rfl
 |cons r l ih=>rw[zaN,tG,ih,il,il];simp[iY];omega
def pO {l a:List Lv}:kw (l++a)=kw l++kw a:=by simp[kw]
def act {s:oe}{a:Int}(h:qU s a=0):Gl a=true/\((nE s.r.c a).isSome=true\/s.room≠0):=by grind[qU]
def A4.room {s:oe}(h:A4 s):0<=s.room:=by have:=h.len;unfold oe.room;omega
def A4.put {s:oe}{a x:Int}(h:A4 s)(i:qU s a=0):A4 (s.put a x):=by
 obtain⟨g,d⟩:=act i
 have f:=h.len
 refine⟨h.lo,h.hi,?_,h.dm,λr b=>?_⟩
 ·simp only[oe.put,il,EB]at f ⊢
  rcases d with d|d
  ·rw[zp d];exact f
  ·have:s.room=s.a1-((s.r.c.length+iY s.up:Nat):Int):=by unfold oe.room;rw[il]
   split<;>omega
 ·rcases zaa.1 b with e|b
  ·rw[e];exact(h.ok _ zs).put g
  ·exact h.ok _ (gr _ b)
def A4.b2:∀{l:List ay}{s:oe},A4 s->A4 (nT s l).1
 | [],s,h=>h
 |c::l,s,h=>by
  unfold nT
  split
  ·rename_i h0;exact A4.b2 (h.put h0)
  ·exact h
def A4.take {s:oe}{l:List ay}(h:A4 s):A4 (vU s l).1:=by
 unfold vU
 split
 ·exact h.b2
 ·exact h
def A4.new {n:Int}:A4 ⟨held n 0 96,⟨[],[]⟩,[]⟩:=by
 have a:=jp (n:=n) (show(0:Int)<=96 by omega)
 refine⟨a.1,a.2,by simpa[iY]using a.1,zs,λr b=>?_⟩
 have:r=⟨[],[]⟩:=by grind
 rw[this];exact .nil
def A4.dP {s:oe}(h:A4 s)(b:¬6<=s.up.length+1):A4 ⟨s.a1,⟨[],[]⟩,s.r::s.up⟩:=by
 refine⟨h.lo,h.hi,?_,by simp;omega,λr a=>?_⟩
 ·have:=h.len
  grind[il]
 ·rcases zaa.1 a with e|a
  ·rw[e];exact .nil
  ·exact h.ok _ a
def A4.dA {s:oe}{q:Lv}{up:List Lv}(h:A4 s)(e:s.up=q::up):A4 ⟨s.a1,q,up⟩:=by
 have c:=h.len
 have a:=h.dm
 have b:=h.ok
 rw[e]at c a b
 refine⟨h.lo,h.hi,?_,by simp at a ⊢;omega,λr d=>b _ (gr _ d)⟩
 grind[il]
def A4.b4 {s:oe}{q:Lv}{up:List Lv}(h:A4 s)(e:s.up=q::up):A4 ⟨s.a1,⟨mg q.c s.r.c,q.f++s.r.f⟩,up⟩:=by
 have g:=h.len
 have b:=h.dm
 have a:=h.ok
 rw[e]at g b a
 have j:=Ko (cs:=q.c) (l:=s.r.c)
 refine⟨h.lo,h.hi,?_,by simp at b ⊢;omega,λr d=>?_⟩
 ·grind[il]
 ·rcases zaa.1 d with i|d
  ·rw[i];exact(a q zs).b2 (a s.r zs).bx
  all_goals grind
theorem A4.free {s:oe}{n:Int}(h:A4 s):A4 (s.free n):=by
 refine⟨h.lo,h.hi,?_,h.dm,λr a=>?_⟩
 ·have:=h.len
  grind[oe.free,il]
 ·rcases zaa.1 a with e|a
  ·rw[e];exact h.ok s.r zs
  ·exact h.ok _ (gr _ a)
def QL {a:Int}:∀{l:List Lv},(∀r∈l,jy r.c a=none)->yf l a=none
 | [],_=>rfl
 |r::l,h=>by unfold yf;rw[h r zs];exact QL λq hq=>h q (by simp[hq])
def Sj {a x:Int}{r:Lv}{l':List Lv}(hx:jy r.c a=some x):∀{l:List Lv},(∀r∈l,jy r.c a=none)->yf (l++r::l') a=some x
 | [],_=>by show yf (r::l') a=some x;unfold yf;rw[hx]
 |q::l,h=>by show yf (q::(l++r::l')) a=some x;unfold yf;rw[h q zs];exact Sj hx λq hq=>h q (by simp[hq])
def Nt (out:List ay)(r:Lv):List ay:=(rm 96 (rm 96 [] r.c).1 out).1
def agm {out:List ay}{r:Lv}(b:SP r.c)(a:∀c∈out,Gl c.J=true)(d:r.c.length+out.length<=96):Nt out r=mg r.c out:=by
 unfold Nt
 rw[BT (most:=96) (cs:=[]) b.bx (by simp;omega),b.eR,BT a (by show(r.c.length+out.length:Int)<=96;omega)]
def Sn.new {n:Int}:Sn (held n 0 96) []:=by
 have a:=jp (n:=n) (show(0:Int)<=96 by omega)
 exact⟨a.1,a.2,by simpa using a.1,.nil⟩
def ZM {out:List ay}{r:Lv}:(Nt out r).length<=96:=by
 have h:Sn 96 (Nt out r):=(Sn.take (Sn.take (Sn.new (n:=96))))
 have:=h.len
 omega
def Xi:∀{l:List Lv}{out:List ay},(∀r∈l,SP r.c)->(∀c∈out,Gl c.J=true)->out.length+iY l<=96->l.foldl Nt out=l.foldl (λout q=>mg q.c out) out
 | [],out,_,_,_=>rfl
 |r::l,out,h,ho,hl=>by
  rw[il]at hl
  have hp:=Ko (cs:=r.c) (l:=out)
  rw[zbv,zbv,agm (h r zs) ho zo]
  exact Xi (λq hq=>h q (by simp[hq])) ((h r zs).b2 ho).bx zo
def VL {s:oe}(h:A4 s):(s.r::s.up).foldl Nt []=s.cells:=by
 have a:=h.len
 have b:=h.hi
 have c:=h.ok s.r zs
 rw[Xi h.ok zs (by simp;omega),zbv]
 rfl
def Pq {s:oe}(h:A4 s):s.cells.length<=96:=by
 rw[<-VL h]
 generalize s.r::s.up=l
 have:∀(l:List Lv) (a:List ay),a.length<=96->(l.foldl Nt a).length<=96:=λl=>by
  induction l with
  |nil=>exact λa h=>h
  |cons r l ih=>exact λa _=>ih _ ZM
 grind
def kE (b:Nat)(s:Nat×Lv):bg:=pz λv=>cj (kx (ax v [v])) (cj (cj (own b [ptr s.1 0,v]) (ob kN s.1 (96,s.2.c))) (sl bq v s.2.f))
def Al (b:Nat)(l:List (Nat×Nat×Lv)):bg:=fg (l.map λx=>ob kE x.1 x.2)
abbrev lZ (l:List (Nat×Nat×Lv)):List Nat:=l.map (·.1)
abbrev Ie (l:List (Nat×Nat×Lv)):List Lv:=l.map (·.2.2)
def ij (b:Nat)(s:oe):bg:=pz λv=>pz λ(l:List (Nat×Nat×Lv))=>cj (kx (ax v [v]/\A4 s/\Ie l=s.up.reverse++[s.r])) (cj (cj (own b [i64 s.a1,v]) (sl lV v (lZ l))) (ob Al b l))
section
variable {w0:bz}{L M:List bg}{K:KV}{F:World->Prop}{C:bg->List bg}{b p c k:Nat}{a x n:Int}{r:Lv}{s:oe}{l us:List (Nat×Nat×Lv)}{v:Value}
def MU {l l':List (Nat×Nat×Lv)}:lZ (l++l')=lZ l++lZ l':=zal
def O3 {l l':List (Nat×Nat×Lv)}:Ie (l++l')=Ie l++Ie l':=zal
def jV:G w0 (ob kE p (c,r)::M) F=∀v,ax v [v]->G w0 (own p [ptr c 0,v]::ob kN c (96,r.c)::sl bq v r.f::M) F:=by
 rw[iw,kE]
 simp only[pM,im,jk]
def jg {v:Value}(p c:Nat)(r:Lv) [dn [own p [ptr c 0,v],ob kN c (96,r.c),sl bq v r.f] L M](hv:ax v [v])(H:G w0 (ob kE p (c,r)::M) F):G w0 L F :=
 G.ap (As:=[own p [ptr c 0,v],ob kN c (96,r.c),sl bq v r.f]) (by rw[jV]at H;exact H v hv)
def YK {α:Type}(f:α->bg):∀{l:List α}{k:Nat}{x:α},l[k]? = some x->fg (l.map f)=fg (f x::(l.eraseIdx k).map f)
 | [],k,x,h=>by simp at h
 |y::l,0,x,h=>by simp at h;subst h;rfl
 |y::l,k+1,x,h=>by
  have:=YK f (l:=l) (k:=k) (x:=x) (by simpa using h)
  show cj (f y) (fg (l.map f))=cj (f x) (cj (f y) (fg ((l.eraseIdx k).map f)))
  rw[this,mM];rfl
def Lh {p c:Nat}{r:Lv}(h:l[k]? = some (p,c,r)):G w0 (ob Al b l::M) F=G w0 (ob kE p (c,r)::ob Al b (l.eraseIdx k)::M) F:=eJ (by
 show cj (ob Al b l) (fg M)=cj (ob kE p (c,r)) (cj (ob Al b (l.eraseIdx k)) (fg M))
 rw[iw Al,iw Al,Al,YK _ h,<-N7];rfl)
def A7:G w0 (ob Al b (us++[(p,c,r)])::M) F=G w0 (ob kE p (c,r)::ob Al b us::M) F:=by
 rw[Lh (k:=us.length) (p:=p) (c:=c) (r:=r) zs]
 congr 3
 simp[zbV]
def Vt (b:Nat)(us:List (Nat×Nat×Lv))(p c:Nat)(r:Lv) [dn [ob kE p (c,r),ob Al b us] L M](H:G w0 (ob Al b (us++[(p,c,r)])::M) F):G w0 L F :=
 G.ap (As:=[ob kE p (c,r),ob Al b us]) (by rw[A7]at H;exact H)
def E0 {p c:Nat}{r:Lv}(h:l[k]? = some (p,c,r)) [dn [ob kE p (c,r),ob Al b (l.eraseIdx k)] L M](H:G w0 (ob Al b l::M) F):G w0 L F :=
 G.ap (As:=[ob kE p (c,r),ob Al b (l.eraseIdx k)]) (by rw[Lh h]at H;exact H)
def Ck {As a:List bg}:fg (As++a)=cj (fg As) (fg a):=by
 induction As with
 |nil=>exact(xC _).symm
 |cons A As ih=>show cj A (fg (As++a))=cj (cj A (fg As)) (fg a);rw[ih,N7]
def ae6 {As:List bg}(H:G w0 (As++ob Al b []::M) F):G w0 (As++M) F:=by
 rw[eJ (L':=As++M)]at H
 ·exact H
 ·rw[Ck,Ck]
  show cj _ (cj (ob Al b []) _)=_
  rw[iw Al]
  show cj _ (cj X3 _)=_
  rw[xC]
def kL:G w0 (ob ij b s::M) F=∀v l,(ax v [v]/\A4 s/\Ie l=s.up.reverse++[s.r])->G w0 (own b [i64 s.a1,v]::sl lV v (lZ l)::ob Al b l::M) F:=by
 rw[iw,ij]
 simp only[pM,im,jk]
def lS:G w0 (ob ij b s::M) F=∀v p c us,(ax v [v]/\A4 s/\Ie us=s.up.reverse)->G w0 (own b [i64 s.a1,v]::sl lV v (lZ us++[p])::ob kE p (c,s.r)::ob Al b us::M) F:=by
 rw[kL]
 have e:∀v us p c,G w0 (own b [i64 s.a1,v]::sl lV v (lZ (us++[(p,c,s.r)]))::ob Al b (us++[(p,c,s.r)])::M) F=G w0 (own b [i64 s.a1,v]::sl lV v (lZ us++[p])::ob kE p (c,s.r)::ob Al b us::M) F:=λv us p c=>by
  rw[Pi,A7,MU]
  apply eJ
  show cj _ (cj _ (cj _ (cj _ _)))=cj _ (cj _ (cj _ (cj _ _)))
  rw[mM (ob Al b us),mM (ob Al b us),mM (ob kE p (c,s.r)),mM (ob kE p (c,s.r))]
  rfl
 apply propext
 constructor
 ·rintro H v p c us ⟨h1,h2,h3⟩
  rw[<-e]
  exact H v (us++[(p,c,s.r)]) ⟨h1,h2,by rw[O3,h3];rfl⟩
 ·rintro H v l ⟨h1,h2,h3⟩
  obtain⟨us,y,d,f,h⟩:=zcs.1 h3
  obtain⟨z,zs,rfl,a,g⟩:=zcB.1 h
  have:zs=[]:=by simpa using g
  subst this
  obtain⟨p,c,q⟩:=z
  simp only at a
  subst a
  subst d
  rw[e]
  exact H v p c us ⟨h1,h2,f⟩
def jr {v:Value}{xs:List Nat}(b:Nat)(s:oe)(us:List (Nat×Nat×Lv))(p c:Nat) [dn [own b [i64 s.a1,v],sl lV v xs,ob kE p (c,s.r),ob Al b us] L M](hx:xs=lZ us++[p])(h:ax v [v]/\A4 s/\Ie us=s.up.reverse)(H:G w0 (ob ij b s::M) F):G w0 L F :=
 G.ap (As:=[own b [i64 s.a1,v],sl lV v xs,ob kE p (c,s.r),ob Al b us]) (by rw[lS]at H;subst hx;exact H v p c us h)
def G.fA [i:ae L ij b s C](h:A4 s->G w0 L F):G w0 L F:=by
 by_cases a:A4 s
 ·exact h a
 ·refine i.ro (F':=λ_=>True) (λM _=>?_) (λ_ _=>trivial)
  rw[kL]
  exact λv l c=>absurd c.2.1 a
def Il {up:List Lv}(h:Ie us=up.reverse):us.length=up.length:=by
 have:=congrArg List.length h
 grind
def DG (hK:∀p c,G w0 (ob kE p (c,⟨[],[]⟩)::L) (K (ptr p 0))):G w0 L (ac 218 [] K):=by
 refine Pg ?_
 unfold Fu
 refine BX λc=>?_
 rw[show held 96 0 96=96 from rfl]
 refine ar ?_
 refine G.a3 bq ?_
 refine G.box λp=>?_
 refine jg (v:=.slice none 0 0) p c ⟨[],[]⟩ bj ?_
 exact hK p c
def Kt {n:Int}(hK:∀b,G w0 (ob ij b ⟨held n 0 96,⟨[],[]⟩,[]⟩::L) (K (ptr b 0))):G w0 L (ac 187 [i64 n] K):=by
 refine Tq ?_
 unfold J7
 refine ar ?_
 have a:(if(if(96:Int)<n then(96:Int)else n) > 0 then(if(96:Int)<n then(96:Int)else n)else 0)=held n 0 96:=by
  unfold held;split<;>split<;>split<;>(try split)<;>omega
 rw[a]
 refine DG λp c=>?_
 refine G.build lV [p] rfl zs rfl λv d=>ar ?_
 refine G.box λb=>?_
 have h:=hK b
 rw[lS]at h
 have e:=h v p c [] ⟨d,A4.new,rfl⟩
 exact ae6 (b:=b) (As:=[own b [i64 (held n 0 96),v],sl lV v [p],ob kE p (c,⟨[],[]⟩)]) e
def abS (c:us.length<=1000000)(hK:G w0 (own b [i64 n,v]::sl lV v (lZ us++[p])::M) (K (ptr p 0))):G w0 (own b [i64 n,v]::sl lV v (lZ us++[p])::M) (ac 270 [ptr b 0] K):=by
 refine Iw ?_
 unfold xD
 have e:iW (lZ us++[p]) us.length p:=⟨zs⟩
 refine G.drew (ar ?_)
 have a:IntKind.wrap .i64 (((lZ us++[p]).length:Nat)-1:Int)=(us.length:Int):=by
  simp only[LE,zaq,gg]
  rw[jL zo zo];omega
 rw[a]
 refine ar ?_
 exact hK
def DW [i:ae L ij b s C](hK:G w0 (C (ob ij b (ru s).1)) (K (i64 (ru s).2))):G w0 L (ac 367 [ptr b 0] K):=by
 refine i.bi (λM hK=>?_) hK
 rw[lS]
 rintro v p c us ⟨hv,hs,hu⟩
 have g:=Il hu
 have k:=hs.dm
 have a:(lZ us++[p]).length=s.up.length+1:=by simp[g]
 refine DO ?_
 unfold uJ
 unfold ru at hK
 by_cases f:6<=s.up.length+1
 ·rw[zp f,lS]at hK
  have h:(6:Int)<=((s.up.length+1:Nat):Int):=by omega
  refine ca (an a h) ?_
  exact hK v p c us ⟨hv,hs,hu⟩
 ·rw[zn f]at hK
  have h:¬(6:Int)<=((s.up.length+1:Nat):Int):=by omega
  refine bx (an a h) ?_
  refine DG λq d=>bi ?_
  refine G.build lV [q] rfl zs rfl λu j=>bi ?_
  refine G.append (by rw[a];simp;omega) (by rw[a];simp[maxLen];omega) λl e=>bi ?_
  refine Vt b us p c s.r ?_
  refine jr b ⟨s.a1,⟨[],[]⟩,s.r::s.up⟩ (us++[(p,c,s.r)]) q d (show lZ us++[p]++[q]=lZ (us++[(p,c,s.r)])++[q] by simp) ⟨e,hs.dP f,by simp[hu]⟩ ?_
  exact hK.sub
def Sm {p' c':Nat}{q:Lv}{a:List (Nat×Nat×Lv)}(h:a.length<=1000000)(hK:∀v',ax v' [v']->G w0 (own b [i64 n,v']::sl lV v' (lZ a++[p'])::M) (K (i64 0))) :
  G w0 (own b [i64 n,v]::sl lV v (lZ (a++[(p',c',q)])++[p])::M) (ac 335 [ptr b 0] K):=by
 refine uh ?_
 unfold od
 have c:(lZ (a++[(p',c',q)])++[p]).length=a.length+2:=by simp
 have d:¬(((a.length+2:Nat):Int)=1):=by omega
 have f:IntKind.wrap .i64 (((a.length+2:Nat):Int)-1)=((a.length+1:Nat):Int):=by rw[jL zo zo];omega
 refine bx (an c (an d f)) ?_
 refine G.take (by rw[c];omega) λu g=>?_
 have e:(lZ (a++[(p',c',q)])++[p]).take (a.length+1)=lZ a++[p']:=by
  rw[za4 zs,zat zs];simp
 rw[e]
 refine bi ?_
 exact hK u g
def ON {v:Value}{M:List bg}(hK:G w0 (own b [i64 n,v]::sl lV v (lZ []++[p])::M) (K (i64 10))):G w0 (own b [i64 n,v]::sl lV v (lZ []++[p])::M) (ac 335 [ptr b 0] K):=by
 refine uh ?_
 unfold od
 have a:(lZ []++[p]).length=1:=by simp
 have c:((1:Nat):Int)=1:=rfl
 refine ca (an a c) ?_
 exact hK
def Z4 {q:Lv}{up:List Lv}(h:Ie us=(q::up).reverse):∃us' p' c',us=us'++[(p',c',q)]/\Ie us'=up.reverse:=by
 rw[zaN]at h
 obtain⟨us',y,c,e,a⟩:=zcs.1 h
 obtain⟨z,zs,rfl,d,b⟩:=zcB.1 a
 have:zs=[]:=by simpa using b
 grind
def Ed [i:ae L ij b s C](hK:G w0 (C (ob ij b (ky s).1)) (K (i64 (ky s).2))):G w0 L (ac 335 [ptr b 0] K):=by
 refine i.bi (λM hK=>?_) hK
 rw[lS]
 rintro v p c us ⟨hv,hs,hu⟩
 have f:=Il hu
 have l:=hs.dm
 unfold ky at hK
 cases e:s.up with
 |nil =>
  rw[e]at hK hu
  have:us=[]:=by simpa using hu
  subst this
  refine ON ?_
  refine jr b s [] p c rfl ⟨hv,hs,by rw[e];rfl⟩ ?_
  exact hK
 |cons q up =>
  rw[e]at hK hu
  obtain⟨g,h,j,rfl,a⟩:=Z4 hu
  simp only[LE,gg]at f
  refine Sm zo λk d=>?_
  refine G.aJ Al b ?_
  rw[A7]
  refine jr b ⟨s.a1,q,up⟩ g h j rfl ⟨d,hs.dA e,a⟩ ?_
  exact hK.sub
def EL [i:ae L ij b s C](j:s.r.f.length<=1000000)(hK:G w0 (C (ob ij b (s.free n))) (K (.tuple #[]))):G w0 L (ac 366 [ptr b 0,i64 n] K):=by
 refine i.bi (λM hK=>?_) hK
 rw[lS]
 rintro v p c us ⟨hv,hs,hu⟩
 have e:=Il hu
 have h:=hs.dm
 refine Eh ?_
 unfold vz
 refine abS zo ?_
 refine G.aJ kE p ?_
 rw[jV]
 intro g d
 refine ar ?_
 refine G.bM (E:=bq) rfl rfl zd zo (by simp only[maxLen];omega) λu a=>ar ?_
 refine jg p c ⟨s.r.c,s.r.f++[n]⟩ a ?_
 refine jr b ⟨s.a1,⟨s.r.c,s.r.f++[n]⟩,s.up⟩ us p c rfl ⟨hv,hs.free,hu⟩ ?_
 exact hK
def Fw [i:ae L ij b s C](n:s.aH.length<=1000000)(hK:G w0 (C (ob ij b (sB s).1)) (K (i64 (sB s).2))):G w0 L (ac 333 [ptr b 0] K):=by
 refine i.bi (λM hK=>?_) hK
 rw[lS]
 rintro v p c us ⟨hv,hs,hu⟩
 have j:=Il hu
 have B:=hs.dm
 refine DV ?_
 unfold t6
 refine abS zo ?_
 unfold sB at hK
 cases e:s.up with
 |nil =>
  rw[e]at hK hu
  have:us=[]:=by simpa using hu
  subst this
  refine ON (ar ?_)
  refine jr b s [] p c rfl ⟨hv,hs,by rw[e];rfl⟩ ?_
  exact hK
 |cons q up =>
  rw[e]at hK hu
  obtain⟨k,g,m,rfl,h⟩:=Z4 hu
  simp only[LE,gg]at j
  have z:q.f.length+s.r.f.length<=1000000:=by
   unfold oe.aH at n
   rw[e,zaN,pO,pO]at n
   simp only[kw,zaO,List.flatMap_nil,zbw,LE]at n
   omega
  have o:=hs.len
  have F:=hs.hi
  have w:=hs.ok s.r zs
  rw[e,il,il]at o
  refine Sm zo λx a=>?_
  refine G.aJ Al b ?_
  rw[A7]
  refine G.aJ kE p ?_
  rw[jV]
  intro E y
  refine G.aJ kE g ?_
  rw[jV]
  intro D A
  refine G.aJ (slR lV) x ?_
  refine G.aJ lW b (ar ?_)
  refine abS zo (bi ?_)
  refine G.append (xs:=q.f) (ys:=s.r.f) zo (by simp only[maxLen];omega) λu d=>bi ?_
  refine kK (cs:=s.r.c) (most:=96) λH t=>bi ?_
  refine lL (cs:=q.c) (most:=96) (l:=s.r.c) zo ?_
  rw[BT w.bx zo]
  refine bi ?_
  refine jg g m ⟨mg q.c s.r.c,q.f++s.r.f⟩ d ?_
  refine jr b ⟨s.a1,⟨mg q.c s.r.c,q.f++s.r.f⟩,up⟩ k g m rfl ⟨a,hs.b4 e,h⟩ ?_
  exact hK.sub
end
end Go.Proofs.YtoealglbimbbmaaGreatDoor.S
namespace Go.Proofs.YtoealglbimbbmaaGreatDoor.S
open Go Go.Proofs
def VE {l:List Lv}{k:Nat}(a:k<l.length):iY (l.take (k+1))=iY (l.take k)+l[k].c.length:=by
 rw[zaV,dg a,tG]
 simp[iY]
def EW {l:List Lv}{k:Nat}:iY (l.take k)<=iY l:=by
 have:iY (l.take k++l.drop k)=iY (l.take k)+iY (l.drop k):=tG
 rw[zbb]at this
 omega
def MC {l:List Lv}{k:Nat}(a:k<l.length):kw (l.take (k+1))=kw (l.take k)++l[k].f:=by
 rw[zaV,dg a,pO]
 simp[kw]
def PG {l:List Lv}{k:Nat}(a:k<l.length):(kw (l.take k)).length+l[k].f.length<=(kw l).length:=by
 have:kw (l.take (k+1)++l.drop (k+1))=kw (l.take (k+1))++kw (l.drop (k+1)):=pO
 rw[zbb,MC a]at this
 grind
section
variable {w0:bz}{L M:List bg}{K:KV}{F:World->Prop}{C:bg->List bg}{b p c k:Nat}{a x n:Int}{r:Lv}{s:oe}{l us:List (Nat×Nat×Lv)}{v:Value}{xs:List Nat}
def afg {k:Nat}(hk:k<l.length):∃p c,l[k]? = some (p,c,l[k].2.2)/\iW (lZ l) k p/\∃h:k<(Ie l).length,(Ie l)[k]=l[k].2.2 :=
 ⟨l[k].1,l[k].2.1,dg hk,⟨by simp[hk]⟩,by simpa using hk,zs⟩
def VU (d:xs=lZ l)(w:l.length<=1000000)(h0:0<=n)(x:n<=96)(ht:iY (Ie l)<=96)(hK:G w0 (own b [i64 n,v]::sl lV v xs::ob Al b l::M) (K (i64 (n-iY (Ie l))))) :
  G w0 (own b [i64 n,v]::sl lV v xs::ob Al b l::M) (ac 336 [ptr b 0] K):=by
 subst d
 refine FA ?_
 unfold uR
 have f:(lZ l).length=l.length:=by simp
 refine ca f ?_
 refine G.bN (λk:Nat=>i64 (n-iY ((Ie l).take k))) (λk:Nat=>i64 k) (λ_=>own b [i64 n,v]::sl lV v (lZ l)::ob Al b l::M) (λk=>k<=l.length) (λk=>l.length-k) 0 (by simp[iY]) rfl rfl zs ?_
 intro k s J m
 refine ar ?_
 refine G.cond (λh=>?_) (λh=>?_)
 ·have a:k<l.length:=by simpa using h
  obtain⟨p,c,d,e,j,o⟩:=afg a
  have i:=VE j
  have u:=EW (l:=Ie l) (k:=k)
  have q:=EW (l:=Ie l) (k:=k+1)
  rw[o]at i
  generalize l[k].2.2=r at d i
  refine ar ?_
  refine G.aJ Al b ?_
  rw[Lh d,jV]
  intro t g
  refine ar ?_
  refine Gn (cs:=r.c) (most:=96) (ar ?_)
  rw[fm zo,jL zo zo]
  refine jg p c r g ?_
  refine E0 (b:=b) d ?_
  have h:=m (k+1) a zo
  rw[i]at h
  rw[show n-(iY (List.take k (Ie l)):Int)-r.c.length=n-((iY (List.take k (Ie l))+r.c.length:Nat):Int) by omega]
  exact h.sub
 ·have:(Ie l).take k=Ie l:=zat (by simpa using h)
  rw[this]
  exact hK
def A4.eX {s:oe}(b:A4 s)(a:Ie l=s.up.reverse++[s.r]):iY (Ie l)=iY (s.r::s.up):=by
 rw[a,tG,QO,il,il];simp[iY];omega
def aev {s:oe}(a:Ie l=s.up.reverse++[s.r]):l.length=s.up.length+1:=by
 have:=congrArg List.length a
 simpa using this
def vZ [i:ae L ij b s C](hK:G w0 (C (ob ij b (if qU s a=0 then s.put a x else s))) (K (i64 (qU s a)))):G w0 L (ac 271 [ptr b 0,i64 a,u64 x] K):=by
 refine i.bi (λM hK=>?_) hK
 refine Gf ?_
 unfold vT
 refine mK ?_
 refine ar ?_
 refine G.cond (λh=>?_) (λh=>?_)
 ·have e:qU s a=2:=by unfold qU;rw[if_neg];rw[K4];simp at h;omega
  rw[e]at hK
  exact hK
 ·have j:Gl a=true:=by rw[K4];simp at h;omega
  rw[lS]
  rintro v p c us ⟨hv,hs,hu⟩
  have A:=Il hu
  have D:=hs.dm
  have B:=hs.lo
  have F:=hs.hi
  have z:=hs.len
  refine abS (by omega) ?_
  refine G.aJ kE p ?_
  rw[jV]
  intro H k
  refine ar ?_
  refine vY (cs:=s.r.c) (most:=96) ?_
  have d:=EO (cs:=s.r.c) (a:=a)
  cases n:jy s.r.c a with
  |some y =>
   rw[n]at d
   have e:qU s a=0:=by unfold qU;rw[if_pos j,d];rfl
   have o:rO 96 s.r.c a=0:=by unfold rO;rw[if_pos j,d];rfl
   rw[e,if_pos rfl]at hK
   simp only[OD,n]
   refine bi ?_
   refine py (cs:=s.r.c) (most:=96) ?_
   rw[o,if_pos rfl]
   refine jg p c ⟨ni s.r.c a x,s.r.f⟩ k ?_
   refine jr b ⟨s.a1,⟨ni s.r.c a x,s.r.f⟩,s.up⟩ us p c rfl ⟨hv,hs.put e,hu⟩ ?_
   exact hK
  |none =>
   rw[n]at d
   have d:(nE s.r.c a).isSome=false:=by grind
   simp only[OD,n]
   refine bi ?_
   refine jg p c s.r k ?_
   refine Vt b us p c s.r ?_
   refine G.aJ (slR lV) v ?_
   refine G.aJ lW b ?_
   have u:Ie (us++[(p,c,s.r)])=s.up.reverse++[s.r]:=by rw[O3,hu];rfl
   have w:=hs.eX u
   refine VU (l:=us++[(p,c,s.r)]) (by rw[MU];rfl) (by simp;omega) (by omega) (by omega) (by omega) ?_
   rw[w]
   by_cases m:s.room=0
   ·have e:qU s a=5:=by unfold qU;rw[if_pos j,d];simp[m]
    have g:s.a1-(iY (s.r::s.up):Int)=0:=m
    rw[e,if_neg (by decide)]at hK
    refine bx g ?_
    refine G.aJ Al b ?_
    rw[A7]
    refine jr b s us p c rfl ⟨hv,hs,hu⟩ ?_
    exact hK
   ·have e:qU s a=0:=by unfold qU;rw[if_pos j,d];simp[m]
    have g:¬s.a1-(iY (s.r::s.up):Int)=0:=m
    have t:s.r.c.length<96:=by rw[il]at z g;omega
    have o:rO 96 s.r.c a=0:=by unfold rO;rw[if_pos j,d,if_neg (by decide),if_neg (by omega)]
    rw[e,if_pos rfl]at hK
    refine bx g ?_
    refine G.aJ Al b ?_
    rw[A7,jV]
    intro E q
    refine py (cs:=s.r.c) (most:=96) ?_
    rw[o,if_pos rfl]
    refine jg p c ⟨ni s.r.c a x,s.r.f⟩ q ?_
    refine jr b ⟨s.a1,⟨ni s.r.c a x,s.r.f⟩,s.up⟩ us p c rfl ⟨hv,hs.put e,hu⟩ ?_
    exact hK
def Dl [i:ae L ij b s C](A:s.aH.length<=1000000)(hK:∀u,ax u [u]->G w0 (sl bq u s.aH::L) (K u)):G w0 L (ac 183 [ptr b 0] K):=by
 refine i.cb (λM hK=>?_) hK
 rw[kL]
 rintro v l ⟨hv,hs,hl⟩
 have j:(lZ l).length=l.length:=by simp
 have E:=hs.dm
 have D:=aev hl
 unfold oe.aH at A hK
 rw[<-hl]at A hK
 refine C5 ?_
 unfold rZ
 refine ca j ?_
 refine G.a3 bq ?_
 refine G.bN (σ:=Value×Nat) (λz=>z.1) (λz=>i64 z.2) (λz=>sl bq z.1 (kw ((Ie l).take z.2))::own b [i64 s.a1,v]::sl lV v (lZ l)::ob Al b l::M) (λz=>z.2<=l.length/\ax z.1 [z.1]) (λz=>l.length-z.2) (_,0) rfl rfl (by simp[kw]) ⟨zs,bj⟩ ?_
 rintro⟨u,k⟩ ⟨w,q⟩ J hJ
 simp only at w q hJ ⊢
 refine ar ?_
 refine G.cond (λh=>?_) (λh=>?_)
 ·have d:k<l.length:=by simpa using h
  obtain⟨p,c,o,e,a,y⟩:=afg d
  have g:=MC a
  have t:=PG a
  rw[y]at g t
  generalize l[k].2.2=r at o g t
  refine ar ?_
  refine G.aJ Al b ?_
  rw[Lh o,jV]
  intro B n
  refine ar ?_
  refine G.append (xs:=kw (List.take k (Ie l))) (ys:=r.f) zo (by simp only[maxLen];omega) λx m=>ar ?_
  rw[fm zo]
  refine jg p c r n ?_
  refine E0 (b:=b) o ?_
  have h:=hJ (x,k+1) ⟨d,m⟩ (by simp;omega)
  simp only[g]at h
  exact h.sub
 ·have:(Ie l).take k=Ie l:=zat (by simpa using h)
  rw[this]
  have hK:=hK u q
  rw[jc,kL]at hK
  exact(hK v l ⟨hv,hs,hl⟩).sub
def Ig (l:List (Nat×Nat×Lv))(k:Nat):Lv:=match l[k]? with|some x=>x.2.2|none=>⟨[],[]⟩
def Zc {k:Nat}{p c:Nat}{r:Lv}(h:l[k]? = some (p,c,r)):Ig l k=r:=by grind[Ig]
def Sc:(pD (lZ l).length).map (λi=>Ig l i.1)=(Ie l).reverse :=
 aaN (l:=Ie l) (Ig l) zs λi y h=>by
  unfold Ig
  rw[zax]at h
  cases e:l[i]? with
  |none=>rw[e]at h;cases h
  |some z=>rw[e]at h;cases h;rfl
def Uy (s:oe)(a:Int):Value:=match yf (s.r::s.up) a with|some x=>.tuple #[u64 x,.bool true]|none=>.tuple #[u64 0,.bool false]
def GK [i:ae L ij b s C](hK:G w0 L (K (Uy s a))):G w0 L (ac 231 [ptr b 0,i64 a] K):=by
 refine i.ro (λM hK=>?_) hK
 refine GG ?_
 unfold ma
 refine G.box λP=>?_
 refine G.new λS=>?_
 refine G.new λQ=>?_
 refine G.aJ ij b ?_
 rw[kL]
 rintro v l ⟨hv,hs,hl⟩
 have X:(lZ l).length=l.length:=by simp
 have h4:=hs.dm
 have h5:=aev hl
 have n:(pD (lZ l).length).map (λi=>Ig l i.1)=s.r::s.up:=by rw[Sc,hl];simp
 refine ar ?_
 refine jH ?_
 unfold ik
 refine G.box (cs:=[v]) λd=>?_
 refine G.em (v:=v) (rows:=lZ l) (λ_=>own d [v]::own b [i64 s.a1,v]::sl lV v (lZ l)::ob Al b l::own Q [.bool false]::own S [u64 0]::own P [i64 a]::M)
  (λf=>own d [v]::own b [i64 s.a1,v]::sl lV v (lZ l)::ob Al b l::own Q [.bool true]::own S [u64 (match f.getLast? with|some i=>(jy (Ig l i.1).c a).getD 0|none=>0)]::own P [i64 a]::M)
  (λf=>∀i∈f,jy (Ig l i.1).c a=none) (λf=>∃g i x,f=g++[i]/\(∀i∈g,jy (Ig l i.1).c a=none)/\jy (Ig l i.1).c a=some x)
  zo (λf W H=>⟨H.bo.2.1,(H.drop.drop).cC⟩) rfl zs (λk m f i J R u Z Y=>?_) (λk m U u I=>?_) (λk m U f w u I=>?_)
 ·have D:i.1<l.length:=by grind
  obtain⟨p,c,B,e,V,e2⟩:=afg D
  have ep:(lZ l)[i.1]=p:=by grind
  generalize hr:l[i.1].2.2=r at B
  have o:=Zc B
  rw[ep]
  refine bi ?_
  refine G.aJ Al b ?_
  rw[Lh B,jV]
  intro v2 A
  refine bi ?_
  refine vY (cs:=r.c) (most:=96) ?_
  cases z:jy r.c a with
  |some y =>
   simp only[OD,z]
   refine bi ?_
   refine jg p c r A ?_
   refine E0 (b:=b) B ?_
   have h:=Y ⟨f,i,y,rfl,u,by rw[o];exact z⟩
   simp only[zcC,List.getLast?_singleton,Option.some_or,o,z,zbF]at h
   exact h.sub
  |none =>
   simp only[OD,z]
   refine bi ?_
   refine jg p c r A ?_
   refine E0 (b:=b) B ?_
   refine(Z λj hj=>?_).sub
   rcases zar.1 hj with h|h
   ·exact u j h
   ·rw[zaf.1 h,o];exact z
 ·have F:yf (s.r::s.up) a=none:=by
   rw[<-n]
   refine QL λq E=>?_
   obtain⟨j,hj,rfl⟩:=zau.1 E
   exact u j hj
  simp only[Uy,F]at hK
  refine bi ?_
  refine I _ _ ?_
  rw[kL]at hK
  exact(hK v l ⟨hv,hs,hl⟩).sub
 ·obtain⟨g,i,y,rfl,T,N⟩:=u
  obtain⟨O,t⟩:=w
  have F:yf (s.r::s.up) a=some y:=by
   rw[<-n,<-t,zaG,zal]
   refine Sj N λq E=>?_
   obtain⟨j,hj,rfl⟩:=zau.1 E
   exact T j hj
  simp only[Uy,F]at hK
  simp only[zcC,List.getLast?_singleton,Option.some_or,N,zbF]
  refine bi ?_
  refine I _ _ ?_
  rw[kL]at hK
  exact(hK v l ⟨hv,hs,hl⟩).sub
end
end Go.Proofs.YtoealglbimbbmaaGreatDoor.S
namespace Go.Proofs.YtoealglbimbbmaaGreatDoor.S
open Go Go.Proofs
section
variable {w0:bz}{L M:List bg}{K:KV}{F:World->Prop}{C:bg->List bg}{b p c k:Nat}{a x n:Int}{r:Lv}{s:oe}{us:List (Nat×Nat×Lv)}{v:Value}{l:List ay}
def Qj {α:Type}{E:uk α}(b:Nat)(xs:List α) [dn [own b [v],sl E v xs] L M](hv:ax v [v])(H:G w0 (ob (pf E) b xs::M) F):G w0 L F :=
 G.ap (As:=[own b [v],sl E v xs]) (by rw[jd]at H;exact H v hv)
def afT (l:List (Nat×Nat×Lv)){m:Nat}(b:List (Fin m)):((b.map λi=>Ig l i.1).foldl Nt []).length<=96:=by
 generalize b.map (λi=>Ig l i.1)=z
 have:∀(z:List Lv) (a:List ay),a.length<=96->(z.foldl Nt a).length<=96:=λz=>by
  induction z with
  |nil=>exact λa h=>h
  |cons r z ih=>exact λa _=>ih _ ZM
 grind
def Dw [i:ae L ij b s C](hK:∀u,ax u [u]->G w0 (sl cg u s.cells::L) (K u)):G w0 L (ac 173 [ptr b 0] K):=by
 refine i.cb (λM hK=>?_) hK
 refine Db ?_
 unfold lr
 refine G.new λh=>?_
 refine G.aJ ij b ?_
 rw[kL]
 rintro v l ⟨hv,hs,hl⟩
 have F:(lZ l).length=l.length:=by simp
 have X:=hs.dm
 have T:=aev hl
 have g:(pD (lZ l).length).map (λi=>Ig l i.1)=s.r::s.up:=by rw[Sc,hl];simp
 refine G.a3 cg ?_
 refine Qj (E:=cg) (v:=.slice none 0 0) h [] bj (ar ?_)
 refine jH ?_
 unfold ik
 refine G.box (cs:=[v]) λd=>?_
 refine G.em (v:=v) (rows:=lZ l) (λa=>own d [v]::ob (pf cg) h ((a.map λi=>Ig l i.1).foldl Nt [])::own b [i64 s.a1,v]::sl lV v (lZ l)::ob Al b l::M)
  (λa=>[]) (λa=>True) (λa=>False)
  zo (λa W H=>⟨H.bo.2.1,(H.drop.drop.drop).cC⟩) rfl trivial (λk m a i J R _ f V=>?_) (λk m B _ A=>?_) (λk m B a y N A=>N.elim)
 ·have q:i.1<l.length:=by grind
  obtain⟨p,c,j,e,D,Z⟩:=afg q
  have ep:(lZ l)[i.1]=p:=by grind
  generalize Q:l[i.1].2.2=r at j
  have n:=Zc j
  have o:=afT l a
  have f:=f trivial
  rw[zal,List.foldl_append]at f
  simp only[zaj,zaL,zbv,List.foldl_nil,n]at f
  generalize(a.map λi=>Ig l i.1).foldl Nt []=out at o f ⊢
  rw[show Nt out r=(rm 96 (rm 96 [] r.c).1 out).1 from rfl]at f
  rw[ep]
  refine BX λw=>?_
  rw[show held 96 0 96=96 from rfl]
  refine bi ?_
  refine G.aJ Al b ?_
  rw[Lh j,jV]
  intro S x
  refine G.aJ (pf cg) h ?_
  rw[jd]
  intro U P
  refine G.fC (b:=c) (most:=96) (cs:=r.c) λO=>?_
  have I:(r.c.length:Int)<=96:=O.len
  refine bi ?_
  refine kK (cs:=r.c) (most:=96) λu z=>bi ?_
  refine lL (cs:=[]) (most:=96) (l:=r.c) zo (bi ?_)
  refine lL (cs:=(rm 96 [] r.c).1) (most:=96) (l:=out) zo (bi ?_)
  refine kK (cs:=(rm 96 (rm 96 [] r.c).1 out).1) (most:=96) λY t=>bi ?_
  refine jg p c r x ?_
  refine E0 (b:=b) j ?_
  refine Qj (E:=cg) h (rm 96 (rm 96 [] r.c).1 out).1 t ?_
  exact f.sub
 ·rw[g,VL hs]
  refine G.aJ (pf cg) h ?_
  rw[jd]
  intro u z
  refine bi ?_
  refine A _ _ ?_
  have hK:=hK u z
  rw[jc,kL]at hK
  exact(hK v l ⟨hv,hs,hl⟩).sub
def XC {k:Nat}{z:oe}(a:k<l.length)(b:nT s l=nT z (l.drop k)) :
  (qU z l[k].J=0->nT s l=nT (z.put l[k].J l[k].word) (l.drop (k+1)))/\(qU z l[k].J≠0->nT s l=(z,qU z l[k].J)):=by
 have e:∀(z:oe) (c:ay) (l:List ay),nT z (c::l)=if qU z c.J=0 then nT (z.put c.J c.word) l else(z,qU z c.J):=λ_ _ _=>rfl
 rw[zav a,e]at b
 grind
def EA [i:ae L ij b s C][r:∀A,Rd w0 (C A) v cg 2 l](Y:l.length<=1000000)(hK:G w0 (C (ob ij b (vU s l).1)) (K (i64 (vU s l).2))):G w0 L (ac 232 [ptr b 0,v] K):=by
 refine G.fA (b:=b) (s:=s) λd=>?_
 have D:=d.ok s.r zs
 have S:=d.dm
 have F:=d.len
 have R:=d.hi
 rw[il]at F
 refine i.d5 (λM O hK=>?_) hK
 have W:=Rd.dp O r
 refine Fy ?_
 unfold uY
 refine BX λw=>?_
 rw[show held 96 0 96=96 from rfl]
 refine G.aJ ij b ?_
 rw[lS]
 rintro X p c us ⟨hv,_,hu⟩
 have H:=Il hu
 refine abS zo ?_
 refine G.aJ kE p ?_
 rw[jV]
 intro T x
 refine bi ?_
 refine kK (cs:=s.r.c) (most:=96) λu N=>bi ?_
 refine lL (cs:=[]) (most:=96) (l:=s.r.c) zo ?_
 rw[BT (most:=96) (cs:=[]) D.bx (by simp;omega),D.eR]
 refine jg p c s.r x ?_
 refine jr b s us p c rfl ⟨hv,d,hu⟩ (bi ?_)
 refine G.a8 (σ:=Nat×oe) (λz=>i64 z.1) (λz=>ob ij b z.2::sl cg u s.r.c::ob kN w (96,s.r.c)::M) (λz=>z.1<=l.length/\nT s l=nT z.2 (l.drop z.1)/\z.2.a1=s.a1/\z.2.up=s.up/\z.2.r.f=s.r.f) (λz=>l.length-z.1) (0,s) rfl rfl ⟨zs,zs,rfl,rfl,rfl⟩ ?_
 rintro⟨k,z⟩ ⟨Q,m,n,B,y⟩ J hJ
 simp only at Q m n B y hJ ⊢
 refine ar ?_
 refine G.cond (λh=>?_) (λh=>?_)
 ·have a:k<l.length:=by simpa using h
  have e:=dm a
  obtain⟨E,I⟩:=XC a m
  refine ar ?_
  refine G.new λq=>ar ?_
  refine vZ (s:=z) (ar ?_)
  refine G.cond (λh=>?_) (λh=>?_)
  ·have g:qU z l[k].J≠0:=by simpa using h
   have P:=I g
   rw[zn g]
   have o:vU s l=(s,qU z l[k].J):=by
    unfold vU;rw[P];simp[g]
   rw[o]at hK
   refine G.aJ ij b ?_
   rw[lS]
   rintro U p4 c4 us4 ⟨hv4,_,hu4⟩
   have j:=Il hu4
   rw[B]at j hu4
   refine abS zo ?_
   refine G.aJ kE p4 ?_
   rw[jV]
   intro V t
   rw[y]
   rw[n]
   refine bi ?_
   refine jg p4 w ⟨s.r.c,s.r.f⟩ t ?_
   refine jr b s us4 p4 w rfl ⟨hv4,d,hu4⟩ ?_
   exact hK.sub
  ·have g:qU z l[k].J=0:=by simpa using h
   rw[zp g]
   refine ar ?_
   rw[fm zo]
   exact(hJ (k+1,z.put l[k].J l[k].word) ⟨a,E g,n,B,y⟩ (by simp;omega)).sub
 ·have:l.drop k=[]:=zaB (by simpa using h)
  rw[this]at m
  have o:vU s l=(z,0):=by
   unfold vU;rw[m];simp[nT]
  rw[o]at hK
  exact hK.sub
end
structure iX where
 size:Nat
 k:List ay
 l:oe
 a9:Int
structure R8 (s:iX):Prop where
 lo:32<=s.size
 hi:s.size<=256
 bx:∀c∈s.k,1<=c.J/\c.J<s.size
 ci:(s.k.map (·.J)).Nodup
def zI (k:List ay)(a:Int):G7:=match jy k a with|some x=>⟨x,true⟩|none=>⟨0,false⟩
def xV (k:List ay)(n:Nat):List G7:=(List.range n).map λi:Nat=>zI k i
def Wk (s:iX)(a:Int):Bool:=decide (1<=a)&&decide (a<s.size)
def uu (s:iX)(a x:Int):iX×Int:=if Wk s a then(match jy s.k a with|some y=>(s,if y=x then 0 else 14)|none=>(⟨s.size,s.k++[⟨a,x⟩],s.l,s.a9⟩,0))else(s,2)
def eH (s:iX)(a:Int):iX×Int×Int:=if Wk s a then(match yf (s.l.r::s.l.up) a with|some x=>(s,x,0)|none=>match jy s.k a with|some x=>(s,x,0)|none=>(⟨s.size,s.k,s.l,a⟩,0,11))else(s,0,2)
abbrev iX.bj (s:iX)(l:oe):iX:=⟨s.size,s.k,l,s.a9⟩
abbrev aeT (s:oe)(a x:Int):oe×Int:=(if qU s a=0 then s.put a x else s,qU s a)
def vI (s:iX)(a x:Int):iX×Int:=if Wk s a then(s.bj (aeT s.l a x).1,(aeT s.l a x).2)else(s,2)
def lD (s:iX)(l:List ay):iX×Int:=if l.all (λc=>Wk s c.J)then(s.bj (vU s.l l).1,(vU s.l l).2)else(s,2)
def Oz {s:iX}{a:Int}(h:Wk s a=true):∃j:Nat,a=j/\1<=j/\j<s.size:=by
 simp[Wk]at h
 exact⟨a.toNat,zo,zo,zo⟩
theorem IJ {k:List ay}{n j:Nat}(h:j<n):iW (xV k n) j (zI k j):=⟨by simp[xV,h]⟩
def SC {k:List ay}{n:Nat}:(xV k n).length=n:=by simp[xV]
theorem TE {k:List ay}{a x b:Int}(h:jy k a=none):jy (k++[⟨a,x⟩]) b=if a=b then some x else jy k b:=by
 have c:nE k a=none:=by
  have:=EO (cs:=k) (a:=a)
  rw[h]at this
  simpa using this
 grind[nu,SS]
def X5 {k:List ay}{n j:Nat}{x:Int}(hj:j<n)(h:jy k (j:Int)=none):xV (k++[⟨j,x⟩]) n=(xV k n).set j ⟨x,true⟩:=by
 apply zbZ
 all_goals grind[xV,zI,TE]
def aaT {n:Nat}:xV [] n=List.replicate n ⟨0,false⟩:=by
 apply zbZ
 ·simp[xV]
 ·intro i a b;simp[xV,zI,jy]
def adD {k:List ay}(a:(k.map (·.J)).Nodup){i:Nat}(hi:i<k.length):jy k k[i].J=some k[i].word:=by
 induction k generalizing i with
 |nil=>simp at hi
 |cons c k ih =>
  rw[zaj,zcq]at a
  grind[jy]
def R8.cz {s:iX}{a x:Int}(h:R8 s)(n:Wk s a=true)(m:jy s.k a=none):R8 ⟨s.size,s.k++[⟨a,x⟩],s.l,s.a9⟩:=by
 obtain⟨j,rfl,e,f⟩:=Oz n
 refine⟨h.lo,h.hi,λc b=>?_,?_⟩
 ·rcases zar.1 b with b|b
  ·exact h.bx c b
  all_goals grind
 ·have g:nE s.k (j:Int)=none:=by
   have:=EO (cs:=s.k) (a:=(j:Int))
   rw[m]at this
   simpa using this
  rw[zal,zbl]
  refine⟨h.ci,zs,λp i q d=>?_⟩
  simp only[zaj,zaL,zaf]at d
  grind[nu]
theorem R8.bj {s:iX}{l:oe}(h:R8 s):R8 (s.bj l):=⟨h.lo,h.hi,h.bx,h.ci⟩
def bf (b:Nat)(s:iX):bg:=pz λvf=>pz λvo=>pz λlp=>cj (kx (ax vf [vf]/\ax vo [vo]/\R8 s)) (cj (cj (cj (own b [vf,vo,ptr lp 0,i64 s.a9]) (sl xF vf (xV s.k s.size))) (sl bq vo (s.k.map (·.J)))) (ob ij lp s.l))
section
variable {w0:bz}{L M:List bg}{K:KV}{F:World->Prop}{C:bg->List bg}{b lp:Nat}{a x n:Int}{s:iX}{v vf vo:Value}
def gj:G w0 (ob bf b s::M) F=∀vf vo lp,(ax vf [vf]/\ax vo [vo]/\R8 s)->G w0 (own b [vf,vo,ptr lp 0,i64 s.a9]::sl xF vf (xV s.k s.size)::sl bq vo (s.k.map (·.J))::ob ij lp s.l::M) F:=by
 rw[iw,bf]
 simp only[pM,im,jk]
def km {fs:List G7}{ps:List Int}(b lp:Nat)(s:iX) [dn [own b [vf,vo,ptr lp 0,i64 s.a9],sl xF vf fs,sl bq vo ps,ob ij lp s.l] L M](e1:fs=xV s.k s.size)(e2:ps=s.k.map (·.J))(h:ax vf [vf]/\ax vo [vo]/\R8 s)(H:G w0 (ob bf b s::M) F):G w0 L F :=
 G.ap (As:=[own b [vf,vo,ptr lp 0,i64 s.a9],sl xF vf fs,sl bq vo ps,ob ij lp s.l]) (by subst e1;subst e2;rw[gj]at H;exact H vf vo lp h)
def ajg {w m:Int}{d:KV}{lp:Nat}(c:ax vf [vf])(hK:∀b,G w0 (ob bf b ⟨(held w 32 256).toNat,[],⟨held m 0 96,⟨[],[]⟩,[]⟩,0⟩::L) (d (ptr b 0))) :
  G w0 (sl xF vf (List.replicate (held w 32 256).toNat ⟨0,false⟩)::ob ij lp ⟨held m 0 96,⟨[],[]⟩,[]⟩::L) (fw (.agg #[vf,.slice none 0 0,ptr lp 0,i64 0]) d):=by
 have a:=jp (n:=w) (show(32:Int)<=256 by omega)
 refine G.a3 bq ?_
 refine G.box (cs:=[vf,.slice none 0 0,ptr lp 0,i64 0]) λb=>?_
 refine km (vf:=vf) (vo:=.slice none 0 0) b lp ⟨(held w 32 256).toNat,[],⟨held m 0 96,⟨[],[]⟩,[]⟩,0⟩ aaT.symm (show([]:List Int)=[]from rfl) ⟨c,bj,by show 32<=(held w 32 256).toNat;omega,by show(held w 32 256).toNat<=256;omega,zs,zs⟩ ?_
 exact hK b
def Ow {w m:Int}(hK:∀b,G w0 (ob bf b ⟨(held w 32 256).toNat,[],⟨held m 0 96,⟨[],[]⟩,[]⟩,0⟩::L) (K (ptr b 0))):G w0 L (ac 162 [i64 w,i64 m] K):=by
 have e:=jp (n:=w) (show(32:Int)<=256 by omega)
 have c:(if(if(256:Int)<w then(256:Int)else w) > 32 then(if(256:Int)<w then(256:Int)else w)else 32)=((held w 32 256).toNat:Int):=by
  unfold held;split<;>split<;>split<;>(try split)<;>omega
 refine Xv ?_
 unfold P0
 refine G.drew (ar ?_)
 rw[c]
 refine⟨?_,?_⟩
 ·refine G.make xF ⟨0,false⟩ rfl (by simp only[maxLen];omega) zo λv a=>bi ?_
  refine Kt λd=>bi ?_
  refine G.aJ (slR xF) v ?_
  refine ajg a λb=>ar ?_
  exact hK b
 ·refine Kt λd=>bi ?_
  refine G.make xF ⟨0,false⟩ rfl (by simp only[maxLen];omega) zo λv a=>bi ?_
  refine ajg a λb=>ar ?_
  exact hK b
def Eb [i:ae L bf b s C](hK:G w0 L (K (i64 s.size))):G w0 L (ac 228 [ptr b 0] K):=by
 refine i.ro (λM hK=>?_) hK
 rw[gj]at *
 intro c d e h
 have hK:=hK c d e h
 have a:=SC (k:=s.k) (n:=s.size)
 refine Lt ?_
 unfold A6
 refine ca a ?_
 exact hK
def yY [i:ae L bf b s C](hK:G w0 L (K (i64 s.a9))):G w0 L (ac 142 [ptr b 0] K):=by
 refine i.ro (λM hK=>?_) hK
 rw[gj]at *
 intro a c d h
 have hK:=hK a c d h
 refine Lg ?_
 unfold A2
 refine ar ?_
 exact hK
def FI [i:ae L bf b s C](hK:G w0 L (K (.bool (Wk s a)))):G w0 L (ac 230 [ptr b 0,i64 a] K):=by
 refine i.ro (λM hK=>?_) hK
 rw[gj]at *
 intro d e f h
 have hK:=hK d e f h
 have c:=SC (k:=s.k) (n:=s.size)
 refine PD ?_
 unfold Fe
 refine mK ?_
 refine ca c ?_
 refine G.all (decide (a<s.size)) (λ_ K hK=>by refine ca c ?_;exact hK) ?_
 exact hK
def Jm [i:ae L bf b s C](hK:G w0 (C (ob bf b (vI s a x).1)) (K (i64 (vI s a x).2))):G w0 L (ac 260 [ptr b 0,i64 a,u64 x] K):=by
 refine i.bi (λM hK=>?_) hK
 refine JJ ?_
 unfold zA
 refine FI (s:=s) ?_
 unfold vI at hK
 cases c:Wk s a with
 |false =>
  rw[c]at hK
  refine ar ?_
  exact hK
 |true =>
  rw[c,zp rfl]at hK
  rw[gj]
  rintro d vo lp ⟨h1,h2,h3⟩
  refine ar ?_
  refine vZ (b:=lp) (s:=s.l) ?_
  refine km b lp (s.bj (aeT s.l a x).1) rfl rfl ⟨h1,h2,h3.bj⟩ ?_
  exact hK
def WF [i:ae L bf b s C](hK:G w0 (C (ob bf b (s.bj (ru s.l).1))) (K (i64 (ru s.l).2))):G w0 L (ac 331 [ptr b 0] K):=by
 refine i.bi (λM hK=>?_) hK
 refine LK ?_
 unfold Bw
 rw[gj]
 rintro a vo lp ⟨h1,h2,h3⟩
 refine ar ?_
 refine DW (b:=lp) (s:=s.l) ?_
 refine km b lp (s.bj (ru s.l).1) rfl rfl ⟨h1,h2,h3.bj⟩ ?_
 exact hK
def My [i:ae L bf b s C](hK:G w0 (C (ob bf b (s.bj (ky s.l).1))) (K (i64 (ky s.l).2))):G w0 L (ac 267 [ptr b 0] K):=by
 refine i.bi (λM hK=>?_) hK
 refine Le ?_
 unfold Am
 rw[gj]
 rintro a vo lp ⟨h1,h2,h3⟩
 refine ar ?_
 refine Ed (b:=lp) (s:=s.l) ?_
 refine km b lp (s.bj (ky s.l).1) rfl rfl ⟨h1,h2,h3.bj⟩ ?_
 exact hK
def MQ [i:ae L bf b s C](c:s.l.aH.length<=1000000)(hK:G w0 (C (ob bf b (s.bj (sB s.l).1))) (K (i64 (sB s.l).2))):G w0 L (ac 265 [ptr b 0] K):=by
 refine i.bi (λM hK=>?_) hK
 refine Mh ?_
 unfold Ap
 rw[gj]
 rintro a vo lp ⟨h1,h2,h3⟩
 refine ar ?_
 refine Fw (b:=lp) (s:=s.l) c ?_
 refine km b lp (s.bj (sB s.l).1) rfl rfl ⟨h1,h2,h3.bj⟩ ?_
 exact hK
def Nl [i:ae L bf b s C](c:s.l.r.f.length<=1000000)(hK:G w0 (C (ob bf b (s.bj (s.l.free n)))) (K (.tuple #[]))):G w0 L (ac 330 [ptr b 0,i64 n] K):=by
 refine i.bi (λM hK=>?_) hK
 refine Lp ?_
 unfold AO
 rw[gj]
 rintro a vo lp ⟨h1,h2,h3⟩
 refine ar ?_
 refine EL (b:=lp) (s:=s.l) c ?_
 refine km b lp (s.bj (s.l.free n)) rfl rfl ⟨h1,h2,h3.bj⟩ ?_
 exact hK
def wH [i:ae L bf b s C](hK:∀u,ax u [u]->G w0 (sl cg u s.l.cells::L) (K u)):G w0 L (ac 144 [ptr b 0] K):=by
 refine i.cb (λM hK=>?_) hK
 refine K1 ?_
 unfold zm
 rw[gj]
 rintro c vo lp ⟨h1,h2,h3⟩
 refine ar ?_
 refine Dw (b:=lp) (s:=s.l) λu a=>ar ?_
 refine km b lp s rfl rfl ⟨h1,h2,h3⟩ ?_
 exact(hK u a).sub
def Kn [i:ae L bf b s C](d:s.l.aH.length<=1000000)(hK:∀u,ax u [u]->G w0 (sl bq u s.l.aH::L) (K u)):G w0 L (ac 152 [ptr b 0] K):=by
 refine i.cb (λM hK=>?_) hK
 refine KQ ?_
 unfold zL
 rw[gj]
 rintro c vo lp ⟨h1,h2,h3⟩
 refine ar ?_
 refine Dl (b:=lp) (s:=s.l) d λu a=>ar ?_
 refine km b lp s rfl rfl ⟨h1,h2,h3⟩ ?_
 exact(hK u a).sub
def EQ [i:ae L bf b s C](r:s.k.length<=1000000)(hK:G w0 (C (ob bf b (uu s a x).1)) (K (i64 (uu s a x).2))):G w0 L (ac 209 [ptr b 0,i64 a,u64 x] K):=by
 refine i.bi (λM hK=>?_) hK
 refine Lq ?_
 unfold Aw
 refine FI (s:=s) ?_
 unfold uu at hK
 cases g:Wk s a with
 |false =>
  rw[g]at hK
  refine ar ?_
  exact hK
 |true =>
  rw[g,zp rfl]at hK
  obtain⟨j,rfl,n,f⟩:=Oz g
  rw[gj]
  rintro m vo lp ⟨h1,h2,h3⟩
  have e:=IJ (k:=s.k) f
  cases d:jy s.k (j:Int)with
  |some y =>
   rw[show zI s.k (j:Int)=⟨y,true⟩ by unfold zI;rw[d]]at e
   rw[d]at hK
   dsimp only at hK
   refine ar ?_
   refine G.new λq=>?_
   by_cases h:y=x
   ·rw[zp h,gj]at hK
    refine ca h ?_
    exact(hK m vo lp ⟨h1,h2,h3⟩).sub
   ·rw[zn h,gj]at hK
    refine ca h ?_
    exact(hK m vo lp ⟨h1,h2,h3⟩).sub
  |none =>
   rw[show zI s.k (j:Int)=⟨0,false⟩ by unfold zI;rw[d]]at e
   rw[d]at hK
   dsimp only at hK
   have p:=h3.cz (x:=x) g d
   refine ar ?_
   refine G.new λq=>ar ?_
   refine G.bM (E:=bq) (a:=(j:Int)) rfl rfl zd (by simp;omega) (by simp only[maxLen,zaq];omega) λu o=>ar ?_
   refine km b lp ⟨s.size,s.k++[⟨j,x⟩],s.l,s.a9⟩ (X5 f d).symm (show s.k.map (·.J)++[(j:Int)]=(s.k++[(⟨j,x⟩:ay)]).map (λc:ay=>c.J) by simp) ⟨h1,o,p⟩ ?_
   exact hK.sub
def mE [i:ae L bf b s C](hK:G w0 (C (ob bf b (eH s a).1)) (K (.tuple #[u64 (eH s a).2.1,i64 (eH s a).2.2]))):G w0 L (ac 197 [ptr b 0,i64 a] K):=by
 refine i.bi (λM hK=>?_) hK
 refine K8 ?_
 unfold A8
 refine FI (s:=s) ?_
 unfold eH at hK
 cases d:Wk s a with
 |false =>
  rw[d]at hK
  refine ar ?_
  exact hK
 |true =>
  rw[d,zp rfl]at hK
  obtain⟨j,rfl,m,g⟩:=Oz d
  rw[gj]
  rintro f vo lp ⟨h1,h2,h3⟩
  have e:=IJ (k:=s.k) g
  refine ar ?_
  refine GK (b:=lp) (s:=s.l) ?_
  unfold Uy
  cases h:yf (s.l.r::s.l.up) (j:Int)with
  |some y =>
   rw[h]at hK
   dsimp only at hK
   rw[gj]at hK
   refine ar ?_
   exact hK f vo lp ⟨h1,h2,h3⟩
  |none =>
   rw[h]at hK
   dsimp only at hK
   cases c:jy s.k (j:Int)with
   |some y =>
    rw[show zI s.k (j:Int)=⟨y,true⟩ by unfold zI;rw[c]]at e
    rw[c]at hK
    dsimp only at hK
    rw[gj]at hK
    refine ar ?_
    refine G.new λq=>ar ?_
    exact(hK f vo lp ⟨h1,h2,h3⟩).sub
   |none =>
    rw[show zI s.k (j:Int)=⟨0,false⟩ by unfold zI;rw[c]]at e
    rw[c]at hK
    dsimp only at hK
    rw[gj]at hK
    refine ar ?_
    refine G.new λq=>ar ?_
    exact(hK f vo lp ⟨h1,h2,h3.lo,h3.hi,h3.bx,h3.ci⟩).sub
def KZ [i:ae L bf b s C](B:s.k.length<=1000000)(hK:∀u,ax u [u]->G w0 (sl cg u s.k::L) (K u)):G w0 L (ac 158 [ptr b 0] K):=by
 refine i.cb (λM hK=>?_) hK
 refine JY ?_
 unfold zG
 rw[gj]
 rintro p vo lp ⟨h1,h2,h3⟩
 have e:(s.k.map (·.J)).length=s.k.length:=by simp
 refine ca e ?_
 refine G.ep (l:=0) (c:=s.k.length) cg ⟨0,0⟩ rfl zo (by simp only[maxLen];omega) zo λu f=>ca e ?_
 refine G.bN (σ:=Value×Nat) (λz=>z.1) (λz=>i64 z.2) (λz=>sl cg z.1 (s.k.take z.2)::own b [p,vo,ptr lp 0,i64 s.a9]::sl xF p (xV s.k s.size)::sl bq vo (s.k.map (·.J))::ob ij lp s.l::M) (λz=>z.2<=s.k.length/\ax z.1 [z.1]) (λz=>s.k.length-z.2) (u,0) rfl rfl rfl ⟨zs,f⟩ ?_
 rintro⟨u,j⟩ ⟨hj,f⟩ J hJ
 simp only at hj f hJ ⊢
 refine ar ?_
 refine G.cond (λh=>?_) (λh=>?_)
 ·have d:j<s.k.length:=by simpa using h
  have y:iW (s.k.map (·.J)) j s.k[j].J:=⟨by simp[d]⟩
  have x:=h3.bx _ (zae d)
  obtain⟨m,q⟩:=zaK (show 0<=s.k[j].J by omega)
  have A:JD s.k[j].J m:=⟨q⟩
  have v:=IJ (k:=s.k) (n:=s.size) (j:=m) zo
  have o:=adD h3.ci d
  rw[show zI s.k (m:Int)=⟨s.k[j].word,true⟩ by unfold zI;rw[<-q,o]]at v
  refine ar ?_
  refine G.bM (E:=cg) (a:=s.k[j]) rfl rfl zd (by simp;omega) (by simp only[maxLen,zaC];omega) λt g=>ar ?_
  rw[fm zo]
  have h:=hJ (t,j+1) ⟨d,g⟩ (by simp;omega)
  have w:s.k.take (j+1)=s.k.take j++[s.k[j]]:=by rw[zaV,dg d];rfl
  simp only[w]at h
  exact h.sub
 ·have r:s.k.take j=s.k:=zat (by simpa using h)
  rw[r]
  refine km b lp s rfl rfl ⟨h1,h2,h3⟩ ?_
  exact(hK u f).sub
def vD {l:List ay}[i:ae L bf b s C][r:∀A,Rd w0 (C A) v cg 2 l](u:l.length<=1000000)(hK:G w0 (C (ob bf b (lD s l).1)) (K (i64 (lD s l).2))):G w0 L (ac 199 [ptr b 0,v] K):=by
 refine i.d5 (λM n hK=>?_) hK
 have p:=Rd.dp n r
 refine Lz ?_
 unfold Bj
 refine ar ?_
 refine G.a8 (λk:Nat=>i64 k) (λ_=>ob bf b s::M) (λk=>k<=l.length/\(l.take k).all (λc=>Wk s c.J)=true) (λk=>l.length-k) 0 rfl rfl ⟨by simp,by simp⟩ ?_
 rintro k ⟨o,g⟩ J hJ
 refine ar ?_
 refine G.cond (λh=>?_) (λh=>?_)
 ·have a:k<l.length:=by simpa using h
  have e:=dm a
  refine ar ?_
  refine G.new λq=>?_
  refine ar ?_
  refine FI (s:=s) ?_
  cases f:Wk s l[k].J with
  |false =>
   have m:lD s l=(s,2):=by
    unfold lD
    rw[if_neg]
    intro d
    rw[zaM]at d
    rw[d _ (zae a)]at f
    cases f
   rw[m]at hK
   refine ar ?_
   exact hK.sub
  |true =>
   refine ar ?_
   rw[fm (by omega)]
   refine(hJ (k+1) ⟨a,?_⟩ (by omega)).sub
   rw[zaV,dg a,List.all_append,g]
   simp[f]
 ·have j:l.take k=l:=zat (by simpa using h)
  rw[j]at g
  unfold lD at hK
  rw[if_pos g]at hK
  rw[gj]
  rintro t vo lp ⟨h1,h2,h3⟩
  refine ar ?_
  refine EA (b:=lp) (s:=s.l) (l:=l) u ?_
  refine km b lp (s.bj (vU s.l l).1) rfl rfl ⟨h1,h2,h3.bj⟩ ?_
  exact hK
end
abbrev lX (n:Int):Int:=IntKind.wrap .i64 n
abbrev wU (n:Int):Int:=IntKind.wrap .u64 n
def G5 (c:Int):Int:=if c<1 then 0 else if 4<c then 0 else lX (1*2 ^ min c.toNat 64)
def pY (n:Int):Int:=if n<1 then 0 else if n<=2 then 1 else if n<=4 then 2 else if n<=8 then 3 else if n<=16 then 4 else 0
def BC (w:Int):Int×Bool:=if 1<=w/\w<=4 then(w,false)else if 9<=w/\w<=12 then(w-8,true)else(0,false)
def mb (c:Int):Int:=lX (0+c)
def z3 (s:iX)(c b:Int):iX×Int×Int :=
 if 2147483648<=b then(s,0,2)
 else if(eH s (lX b)).2.2=0 then
  (if(lD (eH s (lX b)).1 [⟨mb c,(eH s (lX b)).2.1⟩,⟨lX (lX b-1),wU (lX (c+8))⟩]).2=0 then((lD (eH s (lX b)).1 [⟨mb c,(eH s (lX b)).2.1⟩,⟨lX (lX b-1),wU (lX (c+8))⟩]).1,lX b,0)
   else((lD (eH s (lX b)).1 [⟨mb c,(eH s (lX b)).2.1⟩,⟨lX (lX b-1),wU (lX (c+8))⟩]).1,0,(lD (eH s (lX b)).1 [⟨mb c,(eH s (lX b)).2.1⟩,⟨lX (lX b-1),wU (lX (c+8))⟩]).2))
 else((eH s (lX b)).1,0,(eH s (lX b)).2.2)
def Ec (w c:Int):List ay:=[⟨5,wU (lX (lX (lX w+1)+G5 c))⟩,⟨lX w,wU (lX (c+8))⟩]
def zV (s:iX)(c:Int):iX×Int×Int :=
 if(eH s 5).2.2=0 then
  (if(eH s 5).2.1<14\/2147483648<=(eH s 5).2.1\/((eH s 5).1.size:Int)<lX (lX (lX (eH s 5).2.1+1)+G5 c)then((eH s 5).1,0,4)
   else if(lD (eH s 5).1 (Ec (eH s 5).2.1 c)).2=0 then((lD (eH s 5).1 (Ec (eH s 5).2.1 c)).1,lX (lX (eH s 5).2.1+1),0)
   else((lD (eH s 5).1 (Ec (eH s 5).2.1 c)).1,0,(lD (eH s 5).1 (Ec (eH s 5).2.1 c)).2))
 else((eH s 5).1,0,(eH s 5).2.2)
def mL (s:iX)(n:Int):iX×Int×Int :=
 if pY n=0 then(s,0,3)
 else if(eH s (mb (pY n))).2.2=0 then
  (if(eH s (mb (pY n))).2.1=0 then zV (eH s (mb (pY n))).1 (pY n)else z3 (eH s (mb (pY n))).1 (pY n) (eH s (mb (pY n))).2.1)
 else((eH s (mb (pY n))).1,0,(eH s (mb (pY n))).2.2)
def mS (s:iX)(b:Int):iX×Int×Bool×Int :=
 if b<=14\/(s.size:Int)<=b then(s,0,false,2)
 else if(eH s (lX (b-1))).2.2=0 then
  (if(BC (eH s (lX (b-1))).2.1).1=0 then((eH s (lX (b-1))).1,0,false,2)else((eH s (lX (b-1))).1,(BC (eH s (lX (b-1))).2.1).1,(BC (eH s (lX (b-1))).2.1).2,0))
 else((eH s (lX (b-1))).1,0,false,(eH s (lX (b-1))).2.2)
def N6 (q:iX×Int×Bool×Int)(b:Int):iX×Int :=
 if q.2.2.2=0 then
  (if q.2.2.1=true then
   (if(lD q.1 [⟨lX (b-1),wU q.2.1⟩]).2=0 then((lD q.1 [⟨lX (b-1),wU q.2.1⟩]).1.bj ((lD q.1 [⟨lX (b-1),wU q.2.1⟩]).1.l.free b),0)else lD q.1 [⟨lX (b-1),wU q.2.1⟩])
   else(q.1,2))
 else(q.1,q.2.2.2)
def Cu (s:iX)(b:Int):iX×Int:=N6 (mS s b) b
def Oa (q:iX×Int×Bool×Int)(b:Int):iX×Int :=
 if q.2.2.2=0 then
  (if q.2.2.1=true then(q.1,2)
   else if(eH q.1 (mb q.2.1)).2.2=0 then lD (eH q.1 (mb q.2.1)).1 [⟨b,(eH q.1 (mb q.2.1)).2.1⟩,⟨mb q.2.1,wU b⟩]else((eH q.1 (mb q.2.1)).1,(eH q.1 (mb q.2.1)).2.2))
 else(q.1,q.2.2.2)
def v9 (s:iX)(b:Int):iX×Int:=Oa (mS s b) b
section
variable {w0:bz}{L M:List bg}{K:KV}{F:World->Prop}{C:bg->List bg}{b:Nat}{s:iX}{n c w:Int}
def oK (hK:G w0 L (K (i64 (G5 c)))):G w0 L (ac 365 [i64 c] K):=by
 refine Tt ?_
 unfold Jg
 unfold G5 at hK
 refine mK ?_
 by_cases a:c<1
 ·rw[zp a]at hK
  refine ca a ?_
  exact hK
 rw[zn a]at hK
 by_cases b:4<c
 ·rw[zp b]at hK
  refine ca (an a b) ?_
  exact hK
 rw[zn b]at hK
 have d:yi c:=⟨zo⟩
 refine ca (an a b) ?_
 exact hK
def afH:G5 1=2:=by decide
def afO:G5 2=4:=by decide
def aft:G5 3=8:=by decide
def ae4:G5 4=16:=by decide
def RC (hK:G w0 L (K (i64 (pY n)))):G w0 L (ac 327 [i64 n] K):=by
 refine RU ?_
 unfold HB
 unfold pY at hK
 by_cases a:n<1
 ·rw[zp a]at hK
  refine ca a ?_
  exact hK
 rw[zn a]at hK
 refine ca a ?_
 refine G.du (λk:Nat=>i64 k) (λk=>(k=1)\/(k=2/\¬n<=2)\/(k=3/\¬n<=4)\/(k=4/\¬n<=8)\/(k=5/\¬n<=16)) (λk=>5-k) 1 rfl (.inl rfl) ?_
 intro k c J b
 rcases c with rfl|⟨rfl,h⟩|⟨rfl,h⟩|⟨rfl,h⟩|⟨rfl,h⟩
 ·have e:((1:Nat):Int)=1:=rfl
  rw[e]
  refine ar ?_
  refine oK ?_
  rw[afH]
  refine ar ?_
  refine G.cond (λg=>?_) (λg=>?_)
  ·rw[zp (by simpa using g)]at hK;exact hK
  ·refine ar ?_
   exact b 2 (.inr (.inl ⟨rfl,by simpa using g⟩)) zo
 ·have e:((2:Nat):Int)=2:=rfl
  rw[e]
  rw[zn h]at hK
  refine ar ?_
  refine oK ?_
  rw[afO]
  refine ar ?_
  refine G.cond (λg=>?_) (λg=>?_)
  ·rw[zp (by simpa using g)]at hK;exact hK
  ·refine ar ?_
   exact b 3 (.inr (.inr (.inl ⟨rfl,by simpa using g⟩))) zo
 ·have e:((3:Nat):Int)=3:=rfl
  rw[e]
  rw[zn,zn h]at hK
  refine ar ?_
  refine oK ?_
  rw[aft]
  refine ar ?_
  refine G.cond (λg=>?_) (λg=>?_)
  ·rw[zp (by simpa using g)]at hK;exact hK
  ·refine ar ?_
   exact b 4 (.inr (.inr (.inr (.inl ⟨rfl,by simpa using g⟩)))) zo
 ·have e:((4:Nat):Int)=4:=rfl
  rw[e]
  rw[zn,zn,zn h]at hK
  refine ar ?_
  refine oK ?_
  rw[ae4]
  refine ar ?_
  refine G.cond (λg=>?_) (λg=>?_)
  ·rw[zp (by simpa using g)]at hK;exact hK
  ·refine ar ?_
   exact b 5 (.inr (.inr (.inr (.inr ⟨rfl,by simpa using g⟩)))) zo
 ·have e:((5:Nat):Int)=5:=rfl
  rw[e]
  rw[zn,zn,zn,zn h]at hK
  refine ar ?_
  exact hK
def wR (hK:G w0 L (K (i64 (mb c)))):G w0 L (ac 198 [i64 c] K):=by
 refine TH ?_
 unfold K2
 refine ar ?_
 exact hK
def Qm (hK:G w0 L (K (.tuple #[i64 (BC w).1,.bool (BC w).2]))):G w0 L (ac 229 [u64 w] K):=by
 refine OX ?_
 unfold DR
 unfold BC at hK
 refine mK ?_
 by_cases a:1<=w/\w<=4
 ·rw[zp a]at hK
  have e:IntKind.wrap .i64 w=w:=jL zo zo
  refine ca (an a.1 (an a.2 e)) ?_
  exact hK
 rw[zn a]at hK
 by_cases b:9<=w/\w<=12
 ·rw[zp b]at hK
  have e:IntKind.wrap .i64 (IntKind.wrap .u64 (w-8))=w-8:=by rw[Ul (n:=w-8) zo zo,jL zo zo]
  have c:¬w<=4:=by omega
  refine ca (an c (an b.1 (an b.2 e))) ?_
  exact hK
 rw[zn b]at hK
 have c:(decide (1<=w)&&decide (w<=4))=false:=by simp;omega
 have d:(decide (9<=w)&&decide (w<=12))=false:=by simp;omega
 refine ca (an c d) ?_
 exact hK
def two {L:List bg}{b x1 a2 x2:Int}{K:KV}(hK:∀v,ax v [v]->G w0 (sl cg v [⟨b,x1⟩,⟨a2,x2⟩]::L) (K v)) :
  G w0 L (ck [.int .i64 0,.int .u64 0] 2 [(0,2,.agg #[i64 b,u64 x1]),(2,2,.agg #[i64 a2,u64 x2])] K):=by
 refine G.build cg [⟨b,x1⟩,⟨a2,x2⟩] rfl zs rfl λv a=>hK v a
def akg {L:List bg}{b x1:Int}{K:KV}(hK:∀v,ax v [v]->G w0 (sl cg v [⟨b,x1⟩]::L) (K v)) :
  G w0 L (ck [.int .i64 0,.int .u64 0] 1 [(0,2,.agg #[i64 b,u64 x1])] K):=by
 refine G.build cg [⟨b,x1⟩] rfl zs rfl λv a=>hK v a
def RM {g:Int}[i:ae L bf b s C](hK:G w0 (C (ob bf b (z3 s c g).1)) (K (.tuple #[i64 (z3 s c g).2.1,i64 (z3 s c g).2.2]))):G w0 L (ac 328 [ptr b 0,i64 c,u64 g] K):=by
 refine i.bi (λM hK=>?_) hK
 refine RR ?_
 unfold Hg
 unfold z3 at hK
 by_cases d:2147483648<=g
 ·rw[zp d]at hK
  refine ca d ?_
  exact hK
 rw[zn d]at hK
 refine ca d ?_
 refine mE (b:=b) (s:=s) ?_
 generalize eH s (lX g)=r at hK ⊢
 obtain⟨h,x,e⟩:=r
 simp only at hK ⊢
 refine ar ?_
 refine G.bk ?_
 by_cases f:e=0
 ·rw[zp f]at hK
  refine ca (eq_true f) ?_
  refine wR (ar ?_)
  refine two λv k=>?_
  refine vD (b:=b) (s:=h) (l:=[⟨mb c,x⟩,⟨lX (lX g-1),wU (lX (c+8))⟩]) zs ?_
  generalize lD h [⟨mb c,x⟩,⟨lX (lX g-1),wU (lX (c+8))⟩]=t at hK ⊢
  obtain⟨m,j⟩:=t
  simp only at hK ⊢
  by_cases a:j=0
  ·rw[zp a]at hK
   refine ca (eq_true a) ?_
   exact hK.sub
  ·rw[zn a]at hK
   refine ca a ?_
   exact hK.sub
 ·rw[zn f]at hK
  refine ca f ?_
  exact hK
def Q2 [i:ae L bf b s C](hK:G w0 (C (ob bf b (zV s c).1)) (K (.tuple #[i64 (zV s c).2.1,i64 (zV s c).2.2]))):G w0 L (ac 329 [ptr b 0,i64 c] K):=by
 refine i.bi (λM hK=>?_) hK
 refine RW ?_
 unfold GP
 unfold zV at hK
 refine mK ?_
 refine mE (b:=b) (s:=s) (a:=5) ?_
 generalize eH s 5=r at hK ⊢
 obtain⟨j,x,e⟩:=r
 simp only at hK ⊢
 refine ar ?_
 by_cases f:e=0
 ·rw[zp f]at hK
  have d:(x<14\/2147483648<=x\/(j.size:Int)<lX (lX (lX x+1)+G5 c))->G w0 (ob bf b j::M) (K (.tuple #[i64 0,i64 4])):=λh=>by rw[zp h]at hK;exact hK
  by_cases m:x<14
  ·refine ca (an (eq_true f) m) ?_
   exact d (.inl m)
  by_cases n:2147483648<=x
  ·refine ca (an (eq_true f) (an m n)) ?_
   exact d (.inr (.inl n))
  refine ca (an (eq_true f) (an m n)) ?_
  refine oK (ar ?_)
  refine Eb (b:=b) (s:=j) (ar ?_)
  refine G.cond (λg=>?_) (λg=>?_)
  ·exact d (.inr (.inr (by simpa using g)))
  rw[zn (show ¬(x<14\/2147483648<=x\/(j.size:Int)<IntKind.wrap .i64 (IntKind.wrap .i64 (IntKind.wrap .i64 x+1)+G5 c)) by simp at g;omega)]at hK
  refine ar ?_
  refine oK (ar ?_)
  refine two λv p=>?_
  refine vD (b:=b) (s:=j) (l:=Ec x c) (by simp[Ec]) ?_
  generalize lD j (Ec x c)=t at hK ⊢
  obtain⟨q,o⟩:=t
  simp only at hK ⊢
  by_cases k:o=0
  ·rw[zp k]at hK
   refine ca (eq_true k) ?_
   exact hK.sub
  ·rw[zn k]at hK
   refine ca k ?_
   exact hK.sub
 ·rw[zn f]at hK
  refine ca f ?_
  exact hK
def G6 [i:ae L bf b s C](hK:G w0 (C (ob bf b (mL s n).1)) (K (.tuple #[i64 (mL s n).2.1,i64 (mL s n).2.2]))):G w0 L (ac 261 [ptr b 0,i64 n] K):=by
 refine i.bi (λM hK=>?_) hK
 refine Q5 ?_
 unfold G3
 unfold mL at hK
 refine RC ?_
 generalize pY n=c at hK ⊢
 by_cases f:c=0
 ·rw[zp f]at hK
  refine ca (eq_true f) ?_
  exact hK
 rw[zn f]at hK
 refine ca f ?_
 refine wR ?_
 refine mE (b:=b) (s:=s) ?_
 generalize eH s (mb c)=r at hK ⊢
 obtain⟨g,x,e⟩:=r
 simp only at hK ⊢
 refine ar ?_
 by_cases a:e=0
 ·rw[zp a]at hK
  by_cases d:x=0
  ·rw[zp d]at hK
   refine ca (an (eq_true a) (eq_true d)) ?_
   refine Q2 (b:=b) (s:=g) (ar ?_)
   exact hK
  ·rw[zn d]at hK
   refine ca (an (eq_true a) d) ?_
   refine RM (b:=b) (s:=g) (ar ?_)
   exact hK
 ·rw[zn a]at hK
  refine ca a ?_
  exact hK
def GU {n:Int}[i:ae L bf b s C](hK:G w0 (C (ob bf b (mS s n).1)) (K (.tuple #[i64 (mS s n).2.1,.bool (mS s n).2.2.1,i64 (mS s n).2.2.2]))):G w0 L (ac 196 [ptr b 0,i64 n] K):=by
 refine i.bi (λM hK=>?_) hK
 refine Rs ?_
 unfold Hy
 unfold mS at hK
 refine mK ?_
 by_cases d:n<=14
 ·rw[zp (.inl d)]at hK
  refine ca d ?_
  exact hK
 refine ca d ?_
 refine Eb (b:=b) (s:=s) (ar ?_)
 refine G.cond (λg=>?_) (λg=>?_)
 ·rw[zp (.inr (by simpa using g))]at hK
  exact hK
 rw[zn (by simp at g;omega)]at hK
 refine ar ?_
 refine mE (b:=b) (s:=s) ?_
 generalize eH s (lX (n-1))=r at hK ⊢
 obtain⟨f,x,e⟩:=r
 simp only at hK ⊢
 refine ar ?_
 by_cases c:e=0
 ·rw[zp c]at hK
  refine ca (eq_true c) ?_
  refine Qm (ar ?_)
  by_cases a:(BC x).1=0
  ·rw[zp a]at hK
   refine ca (eq_true a) ?_
   exact hK
  ·rw[zn a]at hK
   refine ca a ?_
   exact hK
 ·rw[zn c]at hK
  refine ca c ?_
  exact hK
def Jl {n:Int}[i:ae L bf b s C](u:s.l.r.f.length<=1000)(g:∀l,(lD (mS s n).1 l).1.l.r.f.length<=1000000)(hK:G w0 (C (ob bf b (Cu s n).1)) (K (i64 (Cu s n).2))):G w0 L (ac 262 [ptr b 0,i64 n] K):=by
 refine i.bi (λM hK=>?_) hK
 refine SY ?_
 unfold JM
 unfold Cu N6 at hK
 refine mK ?_
 refine GU (b:=b) (s:=s) ?_
 generalize mS s n=q at hK g ⊢
 obtain⟨j,c,o,e⟩:=q
 simp only at hK g ⊢
 refine ar ?_
 refine G.bk ?_
 by_cases d:e=0
 ·rw[zp d]at hK
  cases o
  ·rw[zn zd]at hK
   refine bx (eq_true d) ?_
   exact hK
  ·rw[zp rfl]at hK
   refine bx (eq_true d) ?_
   refine akg λv p=>?_
   refine vD (b:=b) (s:=j) (l:=[⟨lX (n-1),wU c⟩]) zs ?_
   have a:=g [⟨lX (n-1),wU c⟩]
   generalize lD j [⟨lX (n-1),wU c⟩]=t at hK a ⊢
   obtain⟨k,m⟩:=t
   simp only at hK a ⊢
   by_cases h:m=0
   ·rw[zp h]at hK
    subst h
    refine bi ?_
    refine Nl (b:=b) (s:=k) a ?_
    exact hK.sub
   ·rw[zn h]at hK
    refine bx h ?_
    exact hK.sub
 ·rw[zn d]at hK
  refine bx d ?_
  exact hK
def Td {n:Int}[i:ae L bf b s C](hK:G w0 (C (ob bf b (v9 s n).1)) (K (i64 (v9 s n).2))):G w0 L (ac 169 [ptr b 0,i64 n] K):=by
 refine i.bi (λM hK=>?_) hK
 refine UQ ?_
 unfold JX
 unfold v9 Oa at hK
 refine mK ?_
 refine GU (b:=b) (s:=s) ?_
 generalize mS s n=q at hK ⊢
 obtain⟨f,c,j,e⟩:=q
 simp only at hK ⊢
 refine ar ?_
 refine G.bk ?_
 by_cases a:e=0
 ·rw[zp a]at hK
  cases j
  ·rw[zn zd]at hK
   refine bx (eq_true a) ?_
   refine wR ?_
   refine mE (b:=b) (s:=f) ?_
   generalize eH f (mb c)=r at hK ⊢
   obtain⟨g,x,h⟩:=r
   simp only at hK ⊢
   by_cases d:h=0
   ·rw[zp d]at hK
    refine bx (eq_true d) ?_
    refine wR (bi ?_)
    refine two λv k=>?_
    refine vD (b:=b) (s:=g) (l:=[⟨n,x⟩,⟨mb c,wU n⟩]) zs ?_
    exact hK.sub
   ·rw[zn d]at hK
    refine bx d ?_
    exact hK
  ·rw[zp rfl]at hK
   refine bx (eq_true a) ?_
   exact hK
 ·rw[zn a]at hK
  refine bx a ?_
  exact hK
end
def kY (n:Int):Prop:=0<=n/\n<=18446744073709551615
theorem jN:kY 0:=⟨zd,zd⟩
def Cw (cs:List ay):Prop:=∀c∈cs,kY c.word
def XZ (s:oe):Prop:=∀r∈s.r::s.up,Cw r.c
structure Vg (s:iX):Prop where
 k:Cw s.k
 l:XZ s.l
section
variable {cs l:List ay}{a x n b c:Int}{s:iX}{t:oe}
def cy {α:Type}{c:Prop} [Decidable c]{a b:α}{P:α->Prop}(d:c->P a)(e:¬c->P b):P (if c then a else b):=by
 by_cases h:c
 ·rw[zp h];exact d h
 ·rw[zn h];exact e h
def kZ:kY (wU n):=by
 unfold kY wU IntKind.wrap
 simp[IntKind.signed,IntKind.bits,IntKind.min,IntKind.max]
 omega
def Cw.nil:Cw []:=λ_ h=>by cases h
def Cw.cons (h1:kY x)(h2:Cw cs):Cw (⟨a,x⟩::cs):=λc hc=>(zaa.1 hc).elim (λe=>by rw[e];exact h1) (h2 c)
def Cw.put (hx:kY x):∀{cs:List ay},Cw cs->Cw (ni cs a x)
 | [],_=>Cw.cons hx .nil
 |c::cs,h=>by
  unfold ni
  split
  ·exact .cons hx λd hd=>h d (gr _ hd)
  ·exact λd hd=>(zaa.1 hd).elim (λe=>by rw[e];exact h c zao) (Cw.put hx (cs:=cs) (λe he=>h e (gr _ he)) d)
def Cw.b2:∀{l cs:List ay},Cw cs->Cw l->Cw (mg cs l)
 | [],_,h,_=>h
 |c::l,cs,h,hl=>Cw.b2 (l:=l) (cs:=ni cs c.J c.word) (Cw.put (hl c zao) h) λd hd=>hl d (gr _ hd)
def Cw.look:∀{cs:List ay},Cw cs->jy cs a=some x->kY x
 | [],_,e=>by cases e
 |c::cs,h,e=>by
  unfold jy at e
  split at e
  ·cases e;exact h c zao
  ·exact Cw.look (cs:=cs) (λd hd=>h d (gr _ hd)) e
def Z5:∀{l:List Lv},(∀r∈l,Cw r.c)->yf l a=some x->kY x
 | [],_,e=>by cases e
 |r::l,h,e=>by
  unfold yf at e
  split at e
  ·rename_i h1;cases e;exact(h r zao).look h1
  ·exact Z5 (l:=l) (λd hd=>h d (gr _ hd)) e
def Vg.cT (h:Vg s):Vg (eH s a).1/\kY (eH s a).2.1:=by
 unfold eH
 split
 ·split
  ·rename_i b;exact⟨h,Z5 h.l b⟩
  ·split
   ·rename_i b;exact⟨h,h.k.look b⟩
   ·exact⟨⟨h.k,h.l⟩,jN⟩
 ·exact⟨h,jN⟩
def XZ.put (h:XZ t)(hx:kY x):XZ (t.put a x):=λr hr=>by
 rcases zaa.1 hr with e|e
 ·rw[e];exact(h t.r zao).put hx
 ·exact h r (gr _ e)
def XZ.b2:∀{l:List ay}{t:oe},XZ t->Cw l->XZ (nT t l).1
 | [],_,h,_=>h
 |c::l,t,h,hl=>by
  unfold nT
  split
  ·exact XZ.b2 (h.put (hl c zao)) λd hd=>hl d (gr _ hd)
  ·exact h
def Vg.take (h:Vg s)(a:Cw l):Vg (lD s l).1:=by
 unfold lD
 split
 ·refine⟨h.k,?_⟩
  show XZ (vU s.l l).1
  unfold vU
  split
  ·exact h.l.b2 a
  ·exact h.l
 ·exact h
def Vg.di (h:Vg s)(b:kY x):Vg (vI s a x).1:=by
 unfold vI
 split
 ·refine⟨h.k,?_⟩
  show XZ (aeT s.l a x).1
  unfold aeT
  simp only
  split
  ·exact h.l.put b
  ·exact h.l
 ·exact h
def Vg.cz (h:Vg s)(d:kY x):Vg (uu s a x).1:=by
 unfold uu
 split
 ·split
  ·exact h
  ·exact⟨λc b=>(zar.1 b).elim (h.k c) λe=>by rw[zaf.1 e];exact d,h.l⟩
 ·exact h
theorem Vg.free (h:Vg s):Vg (s.bj (s.l.free n)):=⟨h.k,λr hr=>by
 rcases zaa.1 hr with g|g
 ·rw[g];exact h.l s.l.r zao
 ·exact h.l r (gr _ g)⟩
def Vg.bG (h:Vg s):Vg (z3 s c b).1:=by
 unfold z3
 have d:=h.cT (a:=lX b)
 have e:=d.1.take (l:=[⟨mb c,(eH s (lX b)).2.1⟩,⟨lX (lX b-1),wU (lX (c+8))⟩]) (.cons d.2 (.cons kZ .nil))
 split
 ·exact h
 ·split
  ·split<;>exact e
  ·exact d.1
def Vg.eM (h:Vg s):Vg (zV s c).1:=by
 unfold zV
 have b:=h.cT (a:=5)
 have d:=b.1.take (l:=Ec (eH s 5).2.1 c) (.cons kZ (.cons kZ .nil))
 split
 ·split
  ·exact b.1
  ·split<;>exact d
 ·exact b.1
def Vg.alloc (h:Vg s):Vg (mL s n).1:=by
 unfold mL
 have b:=h.cT (a:=mb (pY n))
 split
 ·exact h
 ·split
  ·split
   ·exact b.1.eM
   ·exact b.1.bG
  ·exact b.1
def Vg.ee (h:Vg s):Vg (mS s b).1:=by
 unfold mS
 have c:=h.cT (a:=lX (b-1))
 split
 ·exact h
 ·split
  ·split<;>exact c.1
  ·exact c.1
def Vg.bc (h:Vg s):Vg (Cu s b).1:=by
 unfold Cu N6
 have a:=h.ee (b:=b)
 generalize mS s b=q at a ⊢
 have c:=a.take (l:=[⟨lX (b-1),wU q.2.1⟩]) (.cons kZ .nil)
 split
 ·split
  ·split
   ·exact c.free
   ·exact c
  ·exact a
 ·exact a
def Vg.give (h:Vg s):Vg (v9 s b).1:=by
 unfold v9 Oa
 have c:=h.ee (b:=b)
 generalize mS s b=q at c ⊢
 have d:=c.cT (a:=mb q.2.1)
 split
 ·split
  ·exact c
  ·split
   ·exact d.1.take (.cons d.2 (.cons kZ .nil))
   ·exact d.1
 ·exact c
end
structure Xk (s:iX):Prop where
 ok:A4 s.l
 b7:∀r∈s.l.r::s.l.up,∀c∈r.c,c.J<s.size
def Nd (t:iX):Prop:=Wk t t.a9=true/\jy t.k t.a9=none
structure Vs (s t:iX)(d:Nat):Prop where
 k:t.k=s.k
 size:t.size=s.size
 ok:Xk s->Xk t
 fr:t.l.aH.length<=s.l.aH.length+d
def Vr (s:iX)(t:iX)(e:Int)(d:Nat):Prop:=Vs s t d/\(e=11->Nd t/\t.l.aH.length<=s.l.aH.length)
section
variable {s t u:iX}{d d2:Nat}{a x e n c:Int}{l:List ay}
def Vs.refl:Vs s s 0:=⟨rfl,rfl,id,LT _⟩
def Vs.trans (h:Vs s t d)(g:Vs t u d2):Vs s u (d+d2):=⟨g.k.trans h.k,g.size.trans h.size,λo=>g.ok (h.ok o),by have:=h.fr;have:=g.fr;omega⟩
def Vs.le (h:Vs s t d)(g:d<=d2):Vs s t d2:=⟨h.k,h.size,h.ok,by have:=h.fr;omega⟩
def Vr.of (h:Vs s t d)(he:e≠11):Vr s t e d:=⟨h,λg=>absurd g he⟩
def Vr.trans (h:Vs s t 0)(g:Vr t u e d):Vr s u e d:=⟨by have:=h.trans g.1;rw[zaS]at this;exact this,λe=>⟨(g.2 e).1,by have:=(g.2 e).2;have:=h.fr;omega⟩⟩
def uV {s:oe}:s.aH.length=(kw s.up).length+s.r.f.length:=by
 unfold oe.aH
 rw[pO,LE]
 have a:∀l:List Lv,(kw l.reverse).length=(kw l).length:=λl=>by
  unfold kw
  simp[List.length_flatMap,List.map_reverse,List.sum_reverse]
 rw[a]
 simp[kw]
theorem oO {s:iX}{a:Int}:Vr s (eH s a).1 (eH s a).2.2 0:=by
 unfold eH
 split
 ·rename_i b
  split
  ·exact .of .refl zs
  ·split
   ·exact .of .refl zs
   ·rename_i c
    exact⟨⟨rfl,rfl,λo=>⟨o.ok,o.b7⟩,LT _⟩,λ_=>⟨⟨b,c⟩,LT _⟩⟩
 ·exact .of .refl zs
def Zl {s:oe}{a:Int}:qU s a≠11:=by unfold qU;split<;>(try split)<;>(try split)<;>decide
def VC {cs:List ay}{a x:Int}{z:ay}(h:z∈ni cs a x):z∈cs\/z=⟨a,x⟩:=by
 cases b:nE cs a with
 |none=>rw[(nu b).1]at h;simpa using h
 |some k =>
  obtain⟨_,_,g,_⟩:=tE b
  rw[g]at h
  exact za2 h
def QG {z:ay}:∀{l cs:List ay},z∈mg cs l->z∈cs\/∃c∈l,z.J=c.J
 | [],cs,h=>.inl h
 |c::l,cs,h=>by
  have h:z∈mg (ni cs c.J c.word) l:=h
  rcases QG h with g|⟨y,hy,g⟩
  ·rcases VC g with g|g
   ·exact .inl g
   ·exact .inr ⟨c,zs,by rw[g]⟩
  ·exact .inr ⟨y,by simp[hy],g⟩
def ada {s:iX}(ha:a<s.size)(h0:qU s.l a=0):Vs s (s.bj (s.l.put a x)) 0 :=
 ⟨rfl,rfl,λo=>⟨o.ok.put h0,λr hr z hz=>by
  rcases zaa.1 hr with e|hr
  ·subst e
   rcases VC hz with g|g
   ·exact o.b7 _ zs z g
   ·rw[g];exact ha
  ·exact o.b7 r (gr _ hr) z hz⟩,by
  show(s.l.put a x).aH.length<=_
  rw[uV,uV];exact LT _⟩
def H6 (h:Wk s a=true):1<=a/\a<s.size:=by unfold Wk at h;simpa using h
theorem Wh:Vr s (vI s a x).1 (vI s a x).2 0:=by
 unfold vI
 split
 ·rename_i b
  refine .of ?_ Zl
  show Vs s (s.bj (if qU s.l a=0 then s.l.put a x else s.l)) 0
  split
  ·rename_i c;exact ada (H6 b).2 c
  ·exact⟨rfl,rfl,λo=>⟨o.ok,o.b7⟩,LT _⟩
 ·exact .of .refl zs
def aao:∀{l:List ay}{s:iX},(∀c∈l,c.J<s.size)->Vs s (s.bj (nT s.l l).1) 0/\(nT s.l l).2≠11
 | [],s,_=>⟨⟨rfl,rfl,λo=>⟨o.ok,o.b7⟩,LT _⟩,by simp[nT]⟩
 |c::l,s,h=>by
  unfold nT
  split
  ·rename_i h0
   have h1:=ada (s:=s) (x:=c.word) (h c zs) h0
   have h2:=aao (l:=l) (s:=s.bj (s.l.put c.J c.word)) (λy hy=>h y (by simp[hy]))
   exact⟨h1.trans h2.1,h2.2⟩
  ·exact⟨⟨rfl,rfl,λo=>⟨o.ok,o.b7⟩,LT _⟩,Zl⟩
def wQ:Vr s (lD s l).1 (lD s l).2 0:=by
 unfold lD
 split
 ·rename_i a
  have a:∀c∈l,c.J<s.size:=λc b=>(H6 (zaM.1 a c b)).2
  have h:=aao a
  unfold vU
  split
  ·exact .of h.1 zs
  ·exact .of ⟨rfl,rfl,λo=>⟨o.ok,o.b7⟩,LT _⟩ h.2
 ·exact .of .refl zs
def ZU:Vs s (s.bj (s.l.free n)) 1:=by
 refine⟨rfl,rfl,λo=>⟨o.ok.free,λr a z b=>?_⟩,?_⟩
 ·rcases zaa.1 a with e|a
  ·subst e;exact o.b7 s.l.r zs z b
  ·exact o.b7 r (gr _ a) z b
 ·simp only[uV,oe.free,LE,gg];omega
def aeP:Vr s (z3 s c a).1 (z3 s c a).2.2 0:=by
 unfold z3
 split
 ·exact .of .refl zs
 ·split
  ·refine .trans (oO (a:=lX a)).1 ?_
   split
   ·exact .of wQ.1 zs
   ·exact wQ
  ·exact oO
def acL:Vr s (zV s c).1 (zV s c).2.2 0:=by
 unfold zV
 split
 ·refine .trans (oO (a:=5)).1 ?_
  split
  ·exact .of .refl zs
  ·split
   ·exact .of wQ.1 zs
   ·exact wQ
 ·exact oO
theorem Vk:Vr s (mL s n).1 (mL s n).2.2 0:=by
 unfold mL
 split
 ·exact .of .refl zs
 ·split
  ·refine .trans (oO (a:=mb (pY n))).1 ?_
   split
   ·exact acL
   ·exact aeP
  ·exact oO
def ET:Vr s (mS s n).1 (mS s n).2.2.2 0:=by
 unfold mS
 split
 ·exact .of .refl zs
 ·split
  ·split
   ·exact .of oO.1 zs
   ·exact .of oO.1 zs
  ·exact oO
theorem Wq:Vr s (Cu s n).1 (Cu s n).2 1:=by
 unfold Cu N6
 split
 ·refine .trans (ET (n:=n)).1 ?_
  split
  ·split
   ·exact .of (wQ.1.trans ZU) zs
   ·exact⟨wQ.1.le zo,wQ.2⟩
  ·exact .of (Vs.refl.le zo) zs
 ·exact⟨ET.1.le zo,ET.2⟩
def afN:Vr s (v9 s n).1 (v9 s n).2 0:=by
 unfold v9 Oa
 split
 ·refine .trans (ET (n:=n)).1 ?_
  split
  ·exact .of .refl zs
  ·split
   ·exact .trans oO.1 wQ
   ·exact oO
 ·exact ET
end
end Go.Proofs.YtoealglbimbbmaaGreatDoor.S
namespace Go.Proofs.YtoealglbimbbmaaGreatDoor.S
open Go Go.Proofs
def ae.ej {w0:bz}{L:List bg}{F:World->Prop}{κ σ ι:Type}{R:κ->σ->bg}{k:κ}{s:σ}{C:bg->List bg}[i:ae L R k s C]{P:ι->Prop}{F':ι->World->Prop}(h:∀M,(∀y,P y->G w0 (ob R k s::M) (F' y))->G w0 (ob R k s::M) F)(c:∀y,P y->G w0 L (F' y)):G w0 L F:=by
 obtain⟨M,a,_⟩:=i.bS
 rw[eJ a]
 exact h M λy b=>by rw[<-eJ a];exact c y b
structure Rj (U:Prop)(s:iX)(err steps:Int)(q:Nat×Nat):Prop where
 vg:U->Vg s
 fr:s.l.aH.length<=q.2
 st:err=0->0<=steps/\steps<=2048/\2048-steps<=q.1
def DX (b:Nat)(z:Prop×Nat×Nat):bg:=pz λvp=>pz λs:iX=>pz λerr=>pz λsteps=>cj (kx (Rj z.1 s err steps z.2)) (cj (own b [ptr vp 0,i64 err,i64 steps]) (ob bf vp s))
def WO:∀{l:List ay}{s:oe},(nT s l).1.r.f=s.r.f
 | [],s=>rfl
 |c::l,s=>by
  unfold nT
  split
  ·rw[WO];rfl
  ·rfl
def P6 {s:iX}{l:List ay}:(lD s l).1.l.r.f=s.l.r.f:=by
 unfold lD
 split
 ·show(vU s.l l).1.r.f=_
  unfold vU
  split
  ·exact WO
  ·rfl
 ·rfl
theorem T7 {s:iX}{a:Int}:(eH s a).1.l=s.l:=by
 unfold eH
 split
 ·split
  all_goals grind
 ·rfl
def Vy {s:iX}{n:Int}:(mS s n).1.l=s.l:=by grind[mS,T7]
def aji {s:oe}:s.r.f.length<=s.aH.length:=by rw[uV];omega
section
variable {w0:bz}{L M:List bg}{K:KV}{F:World->Prop}{C:bg->List bg}{b vp:Nat}{s:iX}{q:Nat×Nat}{n a x e err steps:Int}{v:Value}{U:Prop}
def tF:G w0 (ob DX b (U,q)::M) F=∀vp (s:iX)(err steps:Int),Rj U s err steps q->G w0 (own b [ptr vp 0,i64 err,i64 steps]::ob bf vp s::M) F:=by
 rw[iw,DX]
 simp only[pM,im,jk]
def lf (b vp:Nat)(s:iX)(err steps:Int)(q:Nat×Nat)(h:Rj U s err steps q) [dn [own b [ptr vp 0,i64 err,i64 steps],ob bf vp s] L M](H:G w0 (ob DX b (U,q)::M) F):G w0 L F :=
 G.ap (As:=[own b [ptr vp 0,i64 err,i64 steps],ob bf vp s]) (by rw[tF]at H;exact H vp s err steps h)
abbrev Mg (err e:Int):Int:=if err=0 then e else err
def Ro [i:ae L lW b [v,i64 err,i64 steps] C](hK:G w0 L (K (.bool (decide (err=0))))):G w0 L (ac 297 [ptr b 0] K):=by
 refine i.ro (λM hK=>?_) hK
 refine LC ?_
 unfold Bg
 refine wa ?_
 exact hK
def HL [i:ae L lW b [v,i64 err,i64 steps] C](hK:G w0 (C (own b [v,i64 (Mg err e),i64 steps])) (K (.tuple #[]))):G w0 L (ac 352 [ptr b 0,i64 e] K):=by
 refine i.bi (λM hK=>?_) hK
 refine Iu ?_
 unfold yy
 refine Ro (b:=b) ?_
 unfold Mg at hK
 by_cases h:err=0
 ·rw[zp h]at hK
  refine bx (eq_true h) ?_
  exact hK
 ·rw[zn h]at hK
  refine bx h ?_
  exact hK
def Rj.er (h:Rj U s err steps q):Rj U s (Mg err e) steps q:=⟨h.vg,h.fr,λg=>h.st (by unfold Mg at g;split at g<;>simp_all)⟩
def kq [i:ae L DX b (U,q) C](hK:∀t,G w0 L (K (.bool t))):G w0 L (ac 297 [ptr b 0] K):=by
 refine i.ej (P:=λ_:Bool=>True) (F':=λt=>K (.bool t)) (λM hK=>?_) (λt _=>hK t)
 rw[tF]
 intro d s c a h
 refine Ro (b:=b) ?_
 refine lf b d s c a q h ?_
 exact hK _ trivial
def fb [i:ae L DX b (U,q) C](hK:G w0 L (K (.tuple #[]))):G w0 L (ac 352 [ptr b 0,i64 e] K):=by
 refine i.ro (λM hK=>?_) hK
 rw[tF]
 intro d s c a h
 refine HL (b:=b) ?_
 refine lf b d s (Mg c e) a q h.er ?_
 exact hK
def dy [i:ae L DX b (U,q) C](hK:∀x,(U->kY x)->G w0 L (K (u64 x))):G w0 L (ac 303 [ptr b 0,i64 a] K):=by
 refine i.ej (P:=λx=>U->kY x) (F':=λx=>K (u64 x)) (λM hK=>?_) hK
 rw[tF]
 intro f s e d h
 refine IW ?_
 unfold xH
 refine Ro (b:=b) ?_
 by_cases c:e=0
 ·refine bx (eq_true c) ?_
  refine mE (b:=f) (s:=s) (bi ?_)
  refine HL (b:=b) ?_
  refine lf b f (eH s a).1 (Mg e (eH s a).2.2) d q (Rj.er ⟨λu=>(h.vg u).cT.1,by rw[T7];exact h.fr,h.st⟩) (bi ?_)
  exact hK _ λu=>(h.vg u).cT.2
 ·refine bx c ?_
  refine lf b f s e d q h ?_
  exact hK _ λ_=>jN
def ff {w:Int}[i:ae L DX b (U,q) C](hK:∀x,G w0 L (K (i64 x))):G w0 L (ac 372 [ptr b 0,u64 w] K):=by
 refine I2 ?_
 unfold xx
 by_cases h:2147483648<=w
 ·refine bx h ?_
  refine fb (b:=b) (bi ?_)
  exact hK _
 ·refine bx h ?_
  exact hK _
def cx [i:ae L DX b (U,q) C](hK:∀x,G w0 L (K (i64 x))):G w0 L (ac 351 [ptr b 0,i64 a] K):=by
 refine F7 ?_
 unfold wq
 refine dy (b:=b) λx _=>?_
 exact ff (b:=b) hK
def dd (g:U->kY x:=by first|assumption|exact λ_=>kZ|exact λ_=>jN)[i:ae L DX b (U,q) C](hK:G w0 L (K (.tuple #[]))):G w0 L (ac 300 [ptr b 0,i64 a,u64 x] K):=by
 refine i.ro (λM hK=>?_) hK
 rw[tF]
 intro f s e d h
 refine Gb ?_
 unfold wb
 refine Ro (b:=b) ?_
 by_cases c:e=0
 ·refine bx (eq_true c) ?_
  refine Jm (b:=f) (s:=s) (bi ?_)
  refine HL (b:=b) ?_
  refine lf b f (vI s a x).1 (Mg e (vI s a x).2) d q (Rj.er ⟨λu=>(h.vg u).di (g u),by have:=(Wh (s:=s) (a:=a) (x:=x)).1.fr;have:=h.fr;omega,h.st⟩) ?_
  exact hK
 ·refine bx c ?_
  refine lf b f s e d q h ?_
  exact hK
def db {t:Int}[i:ae L DX b (U,q) C](hK:G w0 L (K (.tuple #[]))):G w0 L (ac 301 [ptr b 0,i64 a,i64 t] K):=by
 refine Gp ?_
 unfold vS
 refine wa ?_
 exact dd (b:=b) (λ_=>kZ) hK
def dc [i:ae L DX b (U,q) C](hK:∀x,G w0 L (K (i64 x))):G w0 L (ac 299 [ptr b 0,i64 n] K):=by
 refine i.ej (P:=λ_=>True) (F':=λx=>K (i64 x)) (λM hK=>?_) (λx _=>hK x)
 rw[tF]
 intro e s d a h
 refine Gy ?_
 unfold wo
 refine Ro (b:=b) ?_
 by_cases c:d=0
 ·refine bx (eq_true c) ?_
  refine G6 (b:=e) (s:=s) (bi ?_)
  refine HL (b:=b) ?_
  refine lf b e (mL s n).1 (Mg d (mL s n).2.2) a q (Rj.er ⟨λu=>(h.vg u).alloc,by have:=(Vk (s:=s) (n:=n)).1.fr;have:=h.fr;omega,h.st⟩) (bi ?_)
  exact hK _ trivial
 ·refine bx c ?_
  refine lf b e s d a q h ?_
  exact hK _ trivial
def OH (j:q.2<=1000)[i:ae L DX b (U,q) C](hK:G w0 (C (ob DX b (U,(q.1,q.2+1)))) (K (.tuple #[]))):G w0 L (ac 304 [ptr b 0,i64 n] K):=by
 refine i.bi (λM hK=>?_) hK
 rw[tF]
 intro e s d a h
 have g:=h.fr
 have f:=aji (s:=s.l)
 refine IH ?_
 unfold xX
 refine Ro (b:=b) ?_
 by_cases c:d=0
 ·refine bx (eq_true c) ?_
  refine Jl (b:=e) (s:=s) zo (λl=>by rw[P6,Vy];omega) (bi ?_)
  refine HL (b:=b) ?_
  refine lf b e (Cu s n).1 (Mg d (Cu s n).2) a (q.1,q.2+1) (Rj.er ⟨λu=>(h.vg u).bc,by have:=(Wq (s:=s) (n:=n)).1.fr;simp only;omega,h.st⟩) ?_
  exact hK
 ·refine bx c ?_
  refine lf b e s d a (q.1,q.2+1) ⟨h.vg,by simp only;omega,h.st⟩ ?_
  exact hK
def Fm [i:ae L DX b (U,q) C](n:∀m,q.1=m+1->G w0 (C (ob DX b (U,(m,q.2)))) (K (.bool true)))(h0:G w0 L (K (.bool false))):G w0 L (ac 350 [ptr b 0] K):=by
 obtain⟨M,o,p,_⟩:=i.bS
 rw[eJ o]at h0 ⊢
 have n:=λm k=>(eJ (p _))▸n m k
 rw[tF]
 intro j s d a h
 refine H0 ?_
 unfold xJ
 by_cases c:d=0
 ·obtain⟨u,t,r⟩:=h.st c
  have l:IntKind.wrap .i64 (a+1)=a+1:=jL zo zo
  by_cases e:2048<a+1
  ·refine bx (an l e) ?_
   refine HL (b:=b) (bi ?_)
   refine Ro (b:=b) ?_
   have f:¬Mg d 2=0:=by grind
   rw[decide_eq_false f]
   refine lf b j s (Mg d 2) (a+1) q ⟨h.vg,h.fr,λg=>absurd g f⟩ ?_
   exact h0
  ·refine bx (an l e) ?_
   refine Ro (b:=b) ?_
   rw[decide_eq_true c]
   obtain⟨m,k⟩:∃m,q.1=m+1:=⟨q.1-1,zo⟩
   refine lf b j s d (a+1) (m,q.2) ⟨h.vg,h.fr,λ_=>⟨zo,zo,by simp only;omega⟩⟩ ?_
   exact n m k
 ·by_cases e:2048<IntKind.wrap .i64 (a+1)
  ·refine bx e ?_
   refine HL (b:=b) (bi ?_)
   refine Ro (b:=b) ?_
   have f:¬Mg d 2=0:=by grind
   rw[decide_eq_false f]
   refine lf b j s (Mg d 2) (IntKind.wrap .i64 (a+1)) q ⟨h.vg,h.fr,λg=>absurd g f⟩ ?_
   exact h0
  ·refine bx e ?_
   refine Ro (b:=b) ?_
   rw[decide_eq_false c]
   refine lf b j s d (IntKind.wrap .i64 (a+1)) q ⟨h.vg,h.fr,λg=>absurd g c⟩ ?_
   exact h0
end
def Ml:∀(m:Nat)(l:List Int),l.Nodup->(∀x∈l,0<=x/\x<m)->l.length<=m
 |0,l,_,h=>by
  cases l with
  |nil=>simp
  |cons x l=>have:=h x zs;omega
 |m+1,l,hn,h=>by
  by_cases hm:(m:Int)∈l
  ·have h1:=Ml m (l.erase m) (hn.erase _) (λx hx=>by
    have h2:=h x (List.mem_of_mem_erase hx)
    have h3:x≠m:=λe=>by subst e;exact(List.Nodup.not_mem_erase hn) hx
    omega)
   rw[zcg hm]at h1
   omega
  ·have:=Ml m l hn (λx hx=>by
    have h2:=h x hx
    have h3:x≠m:=λe=>hm (e▸hx)
    omega)
   omega
def R8.a6 {s:iX}(h:R8 s):s.k.length<=256:=by
 have:=Ml 256 (s.k.map (·.J)) h.ci (λx b=>by
  obtain⟨c,a,rfl⟩:=zau.1 b
  have d:=h.bx c a
  have e:=h.hi
  omega)
 grind
section
variable {w0:bz}{L M:List bg}{K:KV}{F:World->Prop}{C:bg->List bg}{b:Nat}{s:iX}{n a x e:Int}{U:Prop}
def G.eG [i:ae L bf b s C](h:R8 s->A4 s.l->G w0 L F):G w0 L F:=by
 by_cases d:R8 s
 ·by_cases c:A4 s.l
  ·exact h d c
  ·refine i.ro (F':=λ_=>True) (λM _=>?_) (λ_ _=>trivial)
   rw[gj]
   intro f g e _
   refine G.fA (b:=e) (s:=s.l) λa=>absurd a c
 ·refine i.ro (F':=λ_=>True) (λM _=>?_) (λ_ _=>trivial)
  rw[gj]
  exact λf g e h=>absurd h.2.2 d
abbrev aj4 (w m:Int):iX:=⟨(held w 32 256).toNat,[],⟨held m 0 96,⟨[],[]⟩,[]⟩,0⟩
structure FrV (U:Prop)(s:iX):Prop where
 vg:U->Vg s
 fr:s.l.aH=[]
def Uk:(uu s a x).1.l=s.l:=by
 unfold uu
 grind
def FrV.cz (h:FrV U s)(hx:U->kY x):FrV U (uu s a x).1:=⟨λu=>(h.vg u).cz (hx u),by rw[Uk];exact h.fr⟩
def FrV.new {n w:Int}:FrV U (aj4 n w):=⟨λ_=>⟨.nil,λr hr=>by
 rcases zaa.1 hr with e|e
 ·rw[e];exact .nil
 ·cases e⟩,rfl⟩
def Pu {s:oe}(h:XZ s):Cw s.cells:=by
 unfold oe.cells
 have b:∀{l:List Lv} {a:List ay},(∀r∈l,Cw r.c)->Cw a->Cw (l.foldl (λd q=>mg q.c d) a):=λ{l}=>by
  induction l with
  |nil=>intro a _ h;exact h
  |cons q l ih=>intro a f g;exact ih (λr e=>f r (gr _ e)) (Cw.b2 (f q zao) g)
 exact b (λr e=>h r (gr _ e)) (h s.r zao)
def akk (E:U->Vg s)[i:ae L bf b s C](hK:∀c t,FrV U t->G w0 (ob bf c t::L) (K (ptr c 0))):G w0 L (ac 349 [ptr b 0] K):=by
 refine i.cb (P:=λz:Nat×iX=>FrV U z.2) (N:=λz=>ob bf z.1 z.2) (F':=λz=>K (ptr z.1 0)) (λM hK=>?_) (λz D=>hK z.1 z.2 D)
 refine XK ?_
 unfold Oo
 refine G.eG (b:=b) (s:=s) λA r=>?_
 have w:=Pq r
 have x:=A.a6
 refine Eb (b:=b) (s:=s) ?_
 refine Ow λc=>?_
 refine wH (b:=b) (s:=s) λu F=>wa ?_
 have o:=λu=>Pu (E u).l
 refine G.a8 (σ:=Nat×iX) (λz=>i64 z.1) (λz=>sl cg u s.l.cells::ob bf c z.2::ob bf b s::M) (λz=>z.1<=s.l.cells.length/\FrV U z.2) (λz=>s.l.cells.length-z.1) (0,aj4 s.size 96) rfl rfl ⟨zs,FrV.new⟩ ?_
 rintro⟨k,t⟩ ⟨y,n⟩ J hJ
 simp only at y n hJ ⊢
 refine wa ?_
 refine G.cond (λh=>?_) (λh=>?_)
 ·have a:k<s.l.cells.length:=by simpa using h
  have e:=dm a
  refine wa ?_
  refine G.new λq=>wa ?_
  refine G.eG (b:=c) (s:=t) λd _=>?_
  have p:=d.a6
  refine EQ (b:=c) (s:=t) zo (wa ?_)
  rw[fm zo]
  exact(hJ (k+1,(uu t s.l.cells[k].J s.l.cells[k].word).1) ⟨a,n.cz λu=>o u _ (zae a)⟩ (by simp only;omega)).sub
 ·refine KZ (b:=b) (s:=s) zo λB v=>wa ?_
  refine G.a8 (σ:=Nat×iX) (λz=>i64 z.1) (λz=>sl cg B s.k::sl cg u s.l.cells::ob bf c z.2::ob bf b s::M) (λz=>z.1<=s.k.length/\FrV U z.2) (λz=>s.k.length-z.1) (0,t) rfl rfl ⟨zs,n⟩ ?_
  rintro⟨m,j⟩ ⟨a,g⟩ J2 hJ2
  simp only at a g hJ2 ⊢
  refine wa ?_
  refine G.cond (λh=>?_) (λh=>?_)
  ·have f:m<s.k.length:=by simpa using h
   have e:=dm f
   refine wa ?_
   refine G.new λq=>wa ?_
   refine G.eG (b:=c) (s:=j) λd _=>?_
   have p:=d.a6
   refine EQ (b:=c) (s:=j) zo (wa ?_)
   rw[fm zo]
   exact(hJ2 (m+1,(uu j s.k[m].J s.k[m].word).1) ⟨f,g.cz λu=>(E u).k _ (zae f)⟩ (by simp only;omega)).sub
  ·exact(hK (c,j) g).sub
structure Vl (U:Prop)(s t:iX)(e:Int)(d:Nat):Prop where
 vr:Vr s t e d
 vg:U->Vg t
 rf:t.l.r.f.length<=s.l.r.f.length+d
def NO {g:Value}{root:Int}(f:Nat)(hf:f<=1000)(hs:s.l.r.f.length<=100000)(D:U->Vg s)[i:ae L bf b s C]
  (N:∀(c:Nat) (K':KV),G w0 (ob DX c (U,(2048,f))::L) (K' (.tuple #[]))->G w0 (ob DX c (U,(2048,0))::L) (yL Tryz.prog g [ptr c 0] K'))
  (hK:∀t e,Vl U s t e f->G w0 (C (ob bf b t)) (K (i64 e))):G w0 L (ac 294 [ptr b 0,i64 root,g] K):=by
 refine Yw ?_
 unfold Qh
 have T:Vl U s s 2 f:=⟨.of (Vs.refl.le zo) zd,D,zo⟩
 have S:∀{e:Int},Vl U s s e f->G w0 L (K (i64 e)):=λh=>by rw[i.ba];exact hK s _ h
 refine mK ?_
 by_cases H:root<6
 ·refine ca H ?_
  exact S T
 by_cases P:14<=root
 ·refine ca (an H P) ?_
  exact S T
 refine ca (an H P) ?_
 refine akk (b:=b) (s:=s) D λc t0 y=>wa ?_
 refine G.box λA=>?_
 refine lf A c t0 0 0 (2048,0) ⟨y.vg,by rw[y.fr];simp,λ_=>by simp⟩ ?_
 refine N A _ ?_
 obtain⟨x,Z,e2,e3,_⟩:=i.bS
 rw[eJ (show fg (ob DX A (U,(2048,f))::L)=fg (ob DX A (U,(2048,f))::ob bf b s::x) by show cj _ (fg L)=cj _ (fg (ob bf b s::x));rw[Z])]
 have hK:∀t e,Vl U s t e f->G w0 (ob bf b t::x) (K (i64 e)):=λt e h=>by have:=hK t e h;rw[eJ (e2 _)]at this;exact this
 rw[tF]
 intro B d q M R
 refine wa ?_
 by_cases n:q=11
 ·refine Ts (eq_true n) ?_
  refine yY (b:=B) (s:=d) ?_
  refine mE (b:=b) (s:=s) (wa ?_)
  have Q:=oO (s:=s) (a:=d.a9)
  exact(hK _ _ ⟨⟨Q.1.le zo,Q.2⟩,λu=>(D u).cT.1,by rw[T7];omega⟩).sub
 by_cases X:q=0
 ·refine Ts (an n (eq_true X)) ?_
  refine G.eG (b:=B) (s:=d) λhv hl=>?_
  have Y:=Pq hl
  have af:d.l.aH.length<=f:=R.fr
  have E:=λu=>Pu (R.vg u).l
  refine wH (b:=B) (s:=d) λu hu=>?_
  refine vD (b:=b) (s:=s) (l:=d.l.cells) zo ?_
  have m:=P6 (s:=s) (l:=d.l.cells)
  have j:=wQ (s:=s) (l:=d.l.cells)
  have o:=λu=>(D u).take (l:=d.l.cells) (E u)
  generalize lD s d.l.cells=t at m j o ⊢
  obtain⟨F,V⟩:=t
  simp only at m j o ⊢
  by_cases O:V=0
  ·refine Ts (eq_true O) ?_
   refine Kn (b:=B) (s:=d) zo λW al=>wa ?_
   refine G.sub (L':=sl bq W d.l.aH::ob bf b F::x) ?_
   refine G.a8 (σ:=Nat×iX) (λz=>i64 z.1) (λz=>sl bq W d.l.aH::ob bf b z.2::x) (λz=>z.1<=d.l.aH.length/\Vs s z.2 z.1/\(U->Vg z.2)/\z.2.l.r.f.length<=s.l.r.f.length+z.1) (λz=>d.l.aH.length-z.1) (0,F) rfl rfl ⟨zs,j.1,o,by simp only;rw[m];omega⟩ ?_
   rintro⟨k,t⟩ ⟨hk,v,p,I⟩ J hJ
   simp only at hk v p I hJ ⊢
   refine wa ?_
   refine G.cond (λh=>?_) (λh=>?_)
   ·have w:k<d.l.aH.length:=by simpa using h
    have e:=dm w
    refine wa ?_
    refine Nl (b:=b) (s:=t) zo (wa ?_)
    rw[fm zo]
    exact hJ (k+1,t.bj (t.l.free d.l.aH[k])) ⟨w,v.trans ZU,λu=>(p u).free,by show(t.l.free _).r.f.length<=_;simp only[oe.free,LE,gg];omega⟩ (by simp only;omega)
   ·simp only[decide_eq_false_iff_not]at h
    exact(hK t 0 ⟨.of (v.le zo) zd,p,zo⟩).sub
  ·refine Ts O ?_
   exact(hK F V ⟨⟨j.1.le zo,j.2⟩,o,by rw[m];omega⟩).sub
 ·refine Ts (an n X) ?_
  exact(hK s q ⟨.of (Vs.refl.le zo) n,D,zo⟩).sub
end
end Go.Proofs.YtoealglbimbbmaaGreatDoor.S
