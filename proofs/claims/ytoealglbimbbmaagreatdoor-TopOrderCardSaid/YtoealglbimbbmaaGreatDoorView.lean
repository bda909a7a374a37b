import Derived.Test.YtoealglbimbbmaaGreatDoorLevels
namespace Go.Proofs.YtoealglbimbbmaaGreatDoor.S
open Go Go.Proofs
set_option linter.unusedVariables false
set_option linter.unusedSimpArgs false
structure fT where
 size:Nat
 k:List au
 l:kf
 need:Int
structure Lr (s:fT):Prop where
 lo:32≤s.size
 hi:s.size≤256
 places:∀c∈s.k,1≤c.place∧c.place<s.size
 nodup:(s.k.map (·.place)).Nodup
def qj (k:List au)(a:Int):yS:=match fk k a with | some x=>⟨x,true⟩ | none=>⟨0,false⟩
def pN (k:List au)(n:Nat):List yS:=(List.range n).map fun i:Nat=>qj k i
def JN (s:fT)(a:Int):Bool:=decide (1≤a) && decide (a<s.size)
def yK (s:fT)(a x:Int):fT×Int:=if JN s a then (match fk s.k a with | some y=>(s,if y=x then 0 else 14) | none=>(⟨s.size,s.k++[⟨a,x⟩],s.l,s.need⟩,0)) else (s,2)
def cr (s:fT)(a:Int):fT×Int×Int:=if JN s a then (match qE (s.l.r::s.l.up) a with | some x=>(s,x,0) | none=>match fk s.k a with | some x=>(s,x,0) | none=>(⟨s.size,s.k,s.l,a⟩,0,11)) else (s,0,2)
abbrev fT.log (s:fT)(l:kf):fT:=⟨s.size,s.k,l,s.need⟩
abbrev QA (s:kf)(a x:Int):kf×Int:=(if lJ s a=0 then s.put a x else s,lJ s a)
def rX (s:fT)(a x:Int):fT×Int:=if JN s a then (s.log (QA s.l a x).1,(QA s.l a x).2) else (s,2)
def gT (s:fT)(l:List au):fT×Int:=if l.all (fun c=>JN s c.place) then (s.log (pK s.l l).1,(pK s.l l).2) else (s,2)
theorem Ej {s:fT}{a:Int}(h:JN s a=true):∃j:Nat,a=j∧1≤j∧j<s.size:=by
 simp [JN] at h
 exact⟨a.toNat,by omega,by omega,by omega⟩
theorem Ai {k:List au}{n j:Nat}(h:j<n):eU (pN k n) j (qj k j):=⟨by simp [pN,h]⟩
theorem Hf {k:List au}{n:Nat}:(pN k n).length=n:=by simp [pN]
theorem A8 {k:List au}{a x b:Int}(h:fk k a=none):fk (k++[⟨a,x⟩]) b=if a=b then some x else fk k b:=by
 have hi:je k a=none:=by
  have:=wE (cs:=k) (a:=a)
  rw [h] at this
  simpa using this
 rw [←(i9 hi).1 x,HI]
theorem Me {k:List au}{n j:Nat}{x:Int}(hj:j<n)(h:fk k (j:Int)=none):pN (k++[⟨j,x⟩]) n=(pN k n).set j ⟨x,true⟩:=by
 apply List.ext_getElem
 ·simp [pN]
 ·intro i h1 h2
  rw [List.getElem_set]
  simp only [pN,List.getElem_map,List.getElem_range]
  by_cases e:j=i
  ·subst e
   rw [if_pos rfl]
   unfold qj
   rw [A8 h,if_pos rfl]
  ·have e':¬(j:Int)=(i:Int):=by omega
   rw [if_neg e]
   unfold qj
   rw [A8 h,if_neg e']
theorem Nu {n:Nat}:pN [] n=List.replicate n ⟨0,false⟩:=by
 apply List.ext_getElem
 ·simp [pN]
 ·intro i h1 h2;simp [pN,qj,fk]
theorem Pi {k:List au}(hn:(k.map (·.place)).Nodup){i:Nat}(hi:i<k.length):fk k k[i].place=some k[i].word:=by
 induction k generalizing i with
 | nil=>simp at hi
 | cons c k ih =>
  rw [List.map_cons,List.nodup_cons] at hn
  cases i with
  | zero=>simp [fk]
  | succ i =>
   simp only [List.getElem_cons_succ,List.length_cons] at hi ⊢
   have hi':i<k.length:=by omega
   unfold fk
   rw [if_neg (fun e=>hn.1 (by rw [e];exact List.mem_map.2 ⟨_,List.getElem_mem hi',rfl⟩))]
   exact ih hn.2 hi'
theorem Lr.know {s:fT}{a x:Int}(h:Lr s)(hv:JN s a=true)(hl:fk s.k a=none):Lr ⟨s.size,s.k++[⟨a,x⟩],s.l,s.need⟩:=by
 obtain⟨j,rfl,h1,h2⟩:=Ej hv
 refine⟨h.lo,h.hi,fun c hc=>?_,?_⟩
 ·rcases List.mem_append.1 hc with hc | hc
  ·exact h.places c hc
  ·rw [List.mem_singleton.1 hc];simp only;omega
 ·have hi:je s.k (j:Int)=none:=by
   have:=wE (cs:=s.k) (a:=(j:Int))
   rw [hl] at this
   simpa using this
  rw [List.map_append,List.nodup_append]
  refine⟨h.nodup,by simp,fun p hp q hq=>?_⟩
  simp only [List.map_cons,List.map_nil,List.mem_singleton] at hq
  obtain⟨c,hc,rfl⟩:=List.mem_map.1 hp
  rw [hq]
  exact(i9 hi).2.2 c hc
theorem Lr.log {s:fT}{l:kf}(h:Lr s):Lr (s.log l):=⟨h.lo,h.hi,h.places,h.nodup⟩
def br (b:Nat)(s:fT):ay:=m3 fun vf=>m3 fun vo=>m3 fun lp=>bk (ic (ar vf [vf]∧ar vo [vo]∧Lr s)) (bk (bk (bk (own b [vf,vo,ptr lp 0,i64 s.need]) (sl qt vf (pN s.k s.size))) (sl bg vo (s.k.map (·.place)))) (ob dx lp s.l))
section
variable {w0:bh}{L M:List ay}{K:KV}{F:World→Prop}{C:ay→List ay}{b lp:Nat}{a x n:Int}{s:fT}{v vf vo:Value}
theorem dt:G w0 (ob br b s::M) F=∀vf vo lp,(ar vf [vf]∧ar vo [vo]∧Lr s)→G w0 (own b [vf,vo,ptr lp 0,i64 s.need]::sl qt vf (pN s.k s.size)::sl bg vo (s.k.map (·.place))::ob dx lp s.l::M) F:=by
 rw [eZ,br]
 simp only [qr,fb,fU]
theorem fP {fs:List yS}{ps:List Int}(b lp:Nat)(s:fT) [ez [own b [vf,vo,ptr lp 0,i64 s.need],sl qt vf fs,sl bg vo ps,ob dx lp s.l] L M](e1:fs=pN s.k s.size)(e2:ps=s.k.map (·.place))(h:ar vf [vf]∧ar vo [vo]∧Lr s)(H:G w0 (ob br b s::M) F):G w0 L F :=
 G.pickAll (As:=[own b [vf,vo,ptr lp 0,i64 s.need],sl qt vf fs,sl bg vo ps,ob dx lp s.l]) (by subst e1;subst e2;rw [dt] at H;exact H vf vo lp h)
theorem TJ {w m:Int}{K':KV}{lp:Nat}(hv:ar vf [vf])(hK:∀b,G w0 (ob br b ⟨(held w 32 256).toNat,[],⟨held m 0 96,⟨[],[]⟩,[]⟩,0⟩::L) (K' (ptr b 0))) :
  G w0 (sl qt vf (List.replicate (held w 32 256).toNat ⟨0,false⟩)::ob dx lp ⟨held m 0 96,⟨[],[]⟩,[]⟩::L) (dr (.agg #[vf,.slice none 0 0,ptr lp 0,i64 0]) K'):=by
 have hb:=ft (n:=w) (show (32:Int)≤256 by omega)
 refine G.nilsl bg ?_
 refine G.box (cs:=[vf,.slice none 0 0,ptr lp 0,i64 0]) fun b=>?_
 refine fP (vf:=vf) (vo:=.slice none 0 0) b lp ⟨(held w 32 256).toNat,[],⟨held m 0 96,⟨[],[]⟩,[]⟩,0⟩ Nu.symm (show ([]:List Int)=[] from rfl) ⟨hv,be,by show 32≤(held w 32 256).toNat;omega,by show (held w 32 256).toNat≤256;omega,by simp,by simp⟩ ?_
 exact hK b
theorem Lc {w m:Int}(hK:∀b,G w0 (ob br b ⟨(held w 32 256).toNat,[],⟨held m 0 96,⟨[],[]⟩,[]⟩,0⟩::L) (K (ptr b 0))):G w0 L (CP Tryz.prog Fn.view_New [i64 w,i64 m] K):=by
 have hb:=ft (n:=w) (show (32:Int)≤256 by omega)
 have e3:(if (if (256:Int)<w then (256:Int) else w) > 32 then (if (256:Int)<w then (256:Int) else w) else 32)=((held w 32 256).toNat:Int):=by
  unfold held;split <;> split <;> split <;> (try split) <;> omega
 refine LQ ?_
 unfold EW
 refine G.drew ?_
 refine gr ?_
 rw [e3]
 refine⟨?_,?_⟩
 ·refine G.make qt ⟨0,false⟩ rfl (by simp only [maxLen];omega) (by omega) fun v hv=>?_
  refine gg ?_
  refine A1 fun lp=>?_
  refine gg ?_
  refine G.take1 (Pv qt) v ?_
  refine TJ hv fun b=>?_
  refine gr ?_
  exact hK b
 ·refine A1 fun lp=>?_
  refine gg ?_
  refine G.make qt ⟨0,false⟩ rfl (by simp only [maxLen];omega) (by omega) fun v hv=>?_
  refine gg ?_
  refine TJ hv fun b=>?_
  refine gr ?_
  exact hK b
theorem CX [i:aq L br b s C](hK:G w0 L (K (i64 s.size))):G w0 L (CP Tryz.prog Fn.view_View_Size [ptr b 0] K):=by
 refine i.ro (fun M hK=>?_) hK
 rw [dt] at *
 intro vf vo lp h
 have hK:=hK vf vo lp h
 have hl:=Hf (k:=s.k) (n:=s.size)
 refine B9 ?_
 unfold sj
 refine eY hl ?_
 exact hK
theorem wo [i:aq L br b s C](hK:G w0 L (K (i64 s.need))):G w0 L (CP Tryz.prog Fn.view_View_Need [ptr b 0] K):=by
 refine i.ro (fun M hK=>?_) hK
 rw [dt] at *
 intro vf vo lp h
 have hK:=hK vf vo lp h
 refine Ct ?_
 unfold sS
 refine gr ?_
 exact hK
theorem xK [i:aq L br b s C](hK:G w0 L (K (.bool (JN s a)))):G w0 L (CP Tryz.prog Fn.view_View_is [ptr b 0,i64 a] K):=by
 refine i.ro (fun M hK=>?_) hK
 rw [dt] at *
 intro vf vo lp h
 have hK:=hK vf vo lp h
 have hl:=Hf (k:=s.k) (n:=s.size)
 refine FV ?_
 unfold wJ
 refine gu ?_
 refine eY hl ?_
 refine G.all (decide (a<s.size)) (fun _ K hK=>by refine eY hl ?_;exact hK) ?_
 exact hK
theorem H0 [i:aq L br b s C](hK:G w0 (C (ob br b (rX s a x).1)) (K (i64 (rX s a x).2))):G w0 L (CP Tryz.prog Fn.view_View_Write [ptr b 0,i64 a,u64 x] K):=by
 refine i.use (fun M hK=>?_) hK
 refine BU ?_
 unfold rM
 refine xK (s:=s) ?_
 unfold rX at hK
 cases hv:JN s a with
 | false =>
  rw [hv] at hK
  refine gr ?_
  exact hK
 | true =>
  rw [hv,if_pos rfl] at hK
  rw [dt]
  rintro vf vo lp ⟨h1,h2,h3⟩
  refine gr ?_
  refine pL (b:=lp) (s:=s.l) ?_
  refine fP b lp (s.log (QA s.l a x).1) rfl rfl ⟨h1,h2,h3.log⟩ ?_
  exact hK
theorem Kr [i:aq L br b s C](hK:G w0 (C (ob br b (s.log (mg s.l).1))) (K (i64 (mg s.l).2))):G w0 L (CP Tryz.prog Fn.view_View_Open [ptr b 0] K):=by
 refine i.use (fun M hK=>?_) hK
 refine CM ?_
 unfold si
 rw [dt]
 rintro vf vo lp ⟨h1,h2,h3⟩
 refine gr ?_
 refine w9 (b:=lp) (s:=s.l) ?_
 refine fP b lp (s.log (mg s.l).1) rfl rfl ⟨h1,h2,h3.log⟩ ?_
 exact hK
theorem Ds [i:aq L br b s C](hK:G w0 (C (ob br b (s.log (fZ s.l).1))) (K (i64 (fZ s.l).2))):G w0 L (CP Tryz.prog Fn.view_View_Drop [ptr b 0] K):=by
 refine i.use (fun M hK=>?_) hK
 refine CA ?_
 unfold sy
 rw [dt]
 rintro vf vo lp ⟨h1,h2,h3⟩
 refine gr ?_
 refine vF (b:=lp) (s:=s.l) ?_
 refine fP b lp (s.log (fZ s.l).1) rfl rfl ⟨h1,h2,h3.log⟩ ?_
 exact hK
theorem Dx [i:aq L br b s C](hf:s.l.frees.length≤1000000)(hK:G w0 (C (ob br b (s.log (mG s.l).1))) (K (i64 (mG s.l).2))):G w0 L (CP Tryz.prog Fn.view_View_Keep [ptr b 0] K):=by
 refine i.use (fun M hK=>?_) hK
 refine Ca ?_
 unfold sN
 rw [dt]
 rintro vf vo lp ⟨h1,h2,h3⟩
 refine gr ?_
 refine wS (b:=lp) (s:=s.l) hf ?_
 refine fP b lp (s.log (mG s.l).1) rfl rfl ⟨h1,h2,h3.log⟩ ?_
 exact hK
theorem JU [i:aq L br b s C](hf:s.l.r.f.length≤1000000)(hK:G w0 (C (ob br b (s.log (s.l.free n)))) (K (.tuple #[]))):G w0 L (CP Tryz.prog Fn.view_View_Free [ptr b 0,i64 n] K):=by
 refine i.use (fun M hK=>?_) hK
 refine CO ?_
 unfold sM
 rw [dt]
 rintro vf vo lp ⟨h1,h2,h3⟩
 refine gr ?_
 refine xj (b:=lp) (s:=s.l) hf ?_
 refine fP b lp (s.log (s.l.free n)) rfl rfl ⟨h1,h2,h3.log⟩ ?_
 exact hK
theorem BH [i:aq L br b s C](hK:∀u,ar u [u]→G w0 (sl bf u s.l.cells::L) (K u)):G w0 L (CP Tryz.prog Fn.view_View_Cells [ptr b 0] K):=by
 refine i.roN (fun M hK=>?_) hK
 refine Bt ?_
 unfold ry
 rw [dt]
 rintro vf vo lp ⟨h1,h2,h3⟩
 refine gr ?_
 refine uZ (b:=lp) (s:=s.l) fun u hu=>?_
 refine gr ?_
 refine fP b lp s rfl rfl ⟨h1,h2,h3⟩ ?_
 exact(hK u hu).sub
theorem Ii [i:aq L br b s C](hf:s.l.frees.length≤1000000)(hK:∀u,ar u [u]→G w0 (sl bg u s.l.frees::L) (K u)):G w0 L (CP Tryz.prog Fn.view_View_Frees [ptr b 0] K):=by
 refine i.roN (fun M hK=>?_) hK
 refine AN ?_
 unfold rn
 rw [dt]
 rintro vf vo lp ⟨h1,h2,h3⟩
 refine gr ?_
 refine vC (b:=lp) (s:=s.l) hf fun u hu=>?_
 refine gr ?_
 refine fP b lp s rfl rfl ⟨h1,h2,h3⟩ ?_
 exact(hK u hu).sub
theorem JD [i:aq L br b s C](hk:s.k.length≤1000000)(hK:G w0 (C (ob br b (yK s a x).1)) (K (i64 (yK s a x).2))):G w0 L (CP Tryz.prog Fn.view_View_Know [ptr b 0,i64 a,u64 x] K):=by
 refine i.use (fun M hK=>?_) hK
 refine CL ?_
 unfold sB
 refine xK (s:=s) ?_
 unfold yK at hK
 cases hv:JN s a with
 | false =>
  rw [hv] at hK
  refine gr ?_
  exact hK
 | true =>
  rw [hv,if_pos rfl] at hK
  obtain⟨j,rfl,hj1,hj2⟩:=Ej hv
  rw [dt]
  rintro vf vo lp ⟨h1,h2,h3⟩
  have e:=Ai (k:=s.k) hj2
  cases hl:fk s.k (j:Int) with
  | some y =>
   rw [show qj s.k (j:Int)=⟨y,true⟩ by unfold qj;rw [hl]] at e
   rw [hl] at hK
   dsimp only at hK
   refine gr ?_
   refine G.new fun q=>?_
   by_cases hy:y=x
   ·rw [if_pos hy,dt] at hK
    refine eY hy ?_
    exact(hK vf vo lp ⟨h1,h2,h3⟩).sub
   ·rw [if_neg hy,dt] at hK
    refine eY hy ?_
    exact(hK vf vo lp ⟨h1,h2,h3⟩).sub
  | none =>
   rw [show qj s.k (j:Int)=⟨0,false⟩ by unfold qj;rw [hl]] at e
   rw [hl] at hK
   dsimp only at hK
   have h4:=h3.know (x:=x) hv hl
   refine gr ?_
   refine G.new fun q=>?_
   refine gr ?_
   refine G.append1 (E:=bg) (a:=(j:Int)) rfl rfl (by decide) (by simp;omega) (by simp only [maxLen,List.length_map];omega) fun u hu=>?_
   refine gr ?_
   refine fP b lp ⟨s.size,s.k++[⟨j,x⟩],s.l,s.need⟩ (Me hj2 hl).symm (show s.k.map (·.place)++[(j:Int)]=(s.k++[(⟨j,x⟩:au)]).map (fun c:au=>c.place) by simp) ⟨h1,hu,h4⟩ ?_
   exact hK.sub
theorem kZ [i:aq L br b s C](hK:G w0 (C (ob br b (cr s a).1)) (K (.tuple #[u64 (cr s a).2.1,i64 (cr s a).2.2]))):G w0 L (CP Tryz.prog Fn.view_View_Read [ptr b 0,i64 a] K):=by
 refine i.use (fun M hK=>?_) hK
 refine Cd ?_
 unfold sF
 refine xK (s:=s) ?_
 unfold cr at hK
 cases hv:JN s a with
 | false =>
  rw [hv] at hK
  refine gr ?_
  exact hK
 | true =>
  rw [hv,if_pos rfl] at hK
  obtain⟨j,rfl,hj1,hj2⟩:=Ej hv
  rw [dt]
  rintro vf vo lp ⟨h1,h2,h3⟩
  have e:=Ai (k:=s.k) hj2
  refine gr ?_
  refine yj (b:=lp) (s:=s.l) ?_
  unfold IJ
  cases hr:qE (s.l.r::s.l.up) (j:Int) with
  | some y =>
   rw [hr] at hK
   dsimp only at hK
   rw [dt] at hK
   refine gr ?_
   exact hK vf vo lp ⟨h1,h2,h3⟩
  | none =>
   rw [hr] at hK
   dsimp only at hK
   cases hl:fk s.k (j:Int) with
   | some y =>
    rw [show qj s.k (j:Int)=⟨y,true⟩ by unfold qj;rw [hl]] at e
    rw [hl] at hK
    dsimp only at hK
    rw [dt] at hK
    refine gr ?_
    refine G.new fun q=>?_
    refine gr ?_
    exact(hK vf vo lp ⟨h1,h2,h3⟩).sub
   | none =>
    rw [show qj s.k (j:Int)=⟨0,false⟩ by unfold qj;rw [hl]] at e
    rw [hl] at hK
    dsimp only at hK
    rw [dt] at hK
    refine gr ?_
    refine G.new fun q=>?_
    refine gr ?_
    exact(hK vf vo lp ⟨h1,h2,h3.lo,h3.hi,h3.places,h3.nodup⟩).sub
theorem Iv [i:aq L br b s C](hk:s.k.length≤1000000)(hK:∀u,ar u [u]→G w0 (sl bf u s.k::L) (K u)):G w0 L (CP Tryz.prog Fn.view_View_Known [ptr b 0] K):=by
 refine i.roN (fun M hK=>?_) hK
 refine BP ?_
 unfold rD
 rw [dt]
 rintro vf vo lp ⟨h1,h2,h3⟩
 have hll:(s.k.map (·.place)).length=s.k.length:=by simp
 refine eY hll ?_
 refine G.make2 (l:=0) (c:=s.k.length) bf ⟨0,0⟩ rfl (by omega) (by simp only [maxLen];omega) (by omega) fun u hu=>?_
 refine eY hll ?_
 refine G.loop2 (σ:=Value×Nat) (fun z=>z.1) (fun z=>i64 z.2) (fun z=>sl bf z.1 (s.k.take z.2)::own b [vf,vo,ptr lp 0,i64 s.need]::sl qt vf (pN s.k s.size)::sl bg vo (s.k.map (·.place))::ob dx lp s.l::M) (fun z=>z.2≤s.k.length∧ar z.1 [z.1]) (fun z=>s.k.length-z.2) (u,0) rfl rfl rfl ⟨by simp,hu⟩ ?_
 rintro⟨u,j⟩ ⟨hj,hu⟩ J hJ
 simp only at hj hu hJ ⊢
 refine gr ?_
 refine G.cond (fun h=>?_) (fun h=>?_)
 ·have hj2:j<s.k.length:=by simpa using h
  have e1:eU (s.k.map (·.place)) j s.k[j].place:=⟨by simp [hj2]⟩
  have hp:=h3.places _ (List.getElem_mem hj2)
  obtain⟨m,hm⟩:=Int.eq_ofNat_of_zero_le (show 0≤s.k[j].place by omega)
  have ix:ii s.k[j].place m:=⟨hm⟩
  have e2:=Ai (k:=s.k) (n:=s.size) (j:=m) (by omega)
  have hlk:=Pi h3.nodup hj2
  rw [show qj s.k (m:Int)=⟨s.k[j].word,true⟩ by unfold qj;rw [←hm,hlk]] at e2
  refine gr ?_
  refine G.append1 (E:=bf) (a:=s.k[j]) rfl rfl (by decide) (by simp;omega) (by simp only [maxLen,List.length_take];omega) fun u2 hu2=>?_
  refine gr ?_
  rw [di (by omega)]
  have h:=hJ (u2,j+1) ⟨hj2,hu2⟩ (by simp;omega)
  have ek:s.k.take (j+1)=s.k.take j++[s.k[j]]:=by rw [List.take_add_one,List.getElem?_eq_getElem hj2];rfl
  simp only [ek] at h
  exact h.sub
 ·have ht:s.k.take j=s.k:=List.take_of_length_le (by simpa using h)
  rw [ht]
  refine fP b lp s rfl rfl ⟨h1,h2,h3⟩ ?_
  exact(hK u hu).sub
theorem rG {l:List au}[i:aq L br b s C][r:∀A,Rd w0 (C A) v bf 2 l](hl:l.length≤1000000)(hK:G w0 (C (ob br b (gT s l).1)) (K (i64 (gT s l).2))):G w0 L (CP Tryz.prog Fn.view_View_Take [ptr b 0,v] K):=by
 refine i.useM (fun M hM hK=>?_) hK
 have r':=Rd.frame hM r
 refine Cj ?_
 unfold td
 refine gr ?_
 refine G.loop1 (fun k:Nat=>i64 k) (fun _=>ob br b s::M) (fun k=>k≤l.length∧(l.take k).all (fun c=>JN s c.place)=true) (fun k=>l.length-k) 0 rfl rfl ⟨by simp,by simp⟩ ?_
 rintro k ⟨hk,hp⟩ J hJ
 refine gr ?_
 refine G.cond (fun h=>?_) (fun h=>?_)
 ·have hk2:k<l.length:=by simpa using h
  have e:=ct hk2
  refine gr ?_
  refine G.new fun q=>?_
  refine gr ?_
  refine xK (s:=s) ?_
  cases hv:JN s l[k].place with
  | false =>
   have h4:gT s l=(s,2):=by
    unfold gT
    rw [if_neg]
    intro hall
    rw [List.all_eq_true] at hall
    rw [hall _ (List.getElem_mem hk2)] at hv
    cases hv
   rw [h4] at hK
   refine gr ?_
   exact hK.sub
  | true =>
   refine gr ?_
   rw [di (by omega)]
   refine(hJ (k+1) ⟨hk2,?_⟩ (by omega)).sub
   rw [List.take_add_one,List.getElem?_eq_getElem hk2,List.all_append,hp]
   simp [hv]
 ·have ht:l.take k=l:=List.take_of_length_le (by simpa using h)
  rw [ht] at hp
  unfold gT at hK
  rw [if_pos hp] at hK
  rw [dt]
  rintro vf vo lp ⟨h1,h2,h3⟩
  refine gr ?_
  refine wq (b:=lp) (s:=s.l) (l:=l) hl ?_
  refine fP b lp (s.log (pK s.l l).1) rfl rfl ⟨h1,h2,h3.log⟩ ?_
  exact hK
end
end Go.Proofs.YtoealglbimbbmaaGreatDoor.S
