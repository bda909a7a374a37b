import Derived.Test.YtoealglbimbbmaaGreatDoorLevels
namespace Go.Proofs.YtoealglbimbbmaaGreatDoor.S
open Go Go.Proofs
set_option linter.unusedVariables false
set_option linter.unusedSimpArgs false
structure fR where
 size:Nat
 k:List au
 l:kh
 need:Int
structure L5 (s:fR):Prop where
 lo:32≤s.size
 hi:s.size≤256
 places:∀c∈s.k,1≤c.place∧c.place<s.size
 nodup:(s.k.map (·.place)).Nodup
def qH (k:List au)(a:Int):zb:=match fl k a with | some x=>⟨x,true⟩ | none=>⟨0,false⟩
def pz (k:List au)(n:Nat):List zb:=(List.range n).map fun i:Nat=>qH k i
def Kr (s:fR)(a:Int):Bool:=decide (1≤a) && decide (a<s.size)
def yJ (s:fR)(a x:Int):fR×Int:=if Kr s a then (match fl s.k a with | some y=>(s,if y=x then 0 else 14) | none=>(⟨s.size,s.k++[⟨a,x⟩],s.l,s.need⟩,0)) else (s,2)
def cr (s:fR)(a:Int):fR×Int×Int:=if Kr s a then (match qj (s.l.r::s.l.up) a with | some x=>(s,x,0) | none=>match fl s.k a with | some x=>(s,x,0) | none=>(⟨s.size,s.k,s.l,a⟩,0,11)) else (s,0,2)
abbrev fR.log (s:fR)(l:kh):fR:=⟨s.size,s.k,l,s.need⟩
abbrev Qv (s:kh)(a x:Int):kh×Int:=(if mn s a=0 then s.put a x else s,mn s a)
def se (s:fR)(a x:Int):fR×Int:=if Kr s a then (s.log (Qv s.l a x).1,(Qv s.l a x).2) else (s,2)
def gU (s:fR)(l:List au):fR×Int:=if l.all (fun c=>Kr s c.place) then (s.log (pu s.l l).1,(pu s.l l).2) else (s,2)
theorem E2 {s:fR}{a:Int}(h:Kr s a=true):∃j:Nat,a=j∧1≤j∧j<s.size:=by
 simp [Kr] at h
 exact⟨a.toNat,by omega,by omega,by omega⟩
theorem zu {k:List au}{n j:Nat}(h:j<n):eU (pz k n) j (qH k j):=⟨by simp [pz,h]⟩
theorem Hn {k:List au}{n:Nat}:(pz k n).length=n:=by simp [pz]
theorem AJ {k:List au}{a x b:Int}(h:fl k a=none):fl (k++[⟨a,x⟩]) b=if a=b then some x else fl k b:=by
 have hi:je k a=none:=by
  have:=wP (cs:=k) (a:=a)
  rw [h] at this
  simpa using this
 rw [←(jb hi).1 x,Hq]
theorem Ly {k:List au}{n j:Nat}{x:Int}(hj:j<n)(h:fl k (j:Int)=none):pz (k++[⟨j,x⟩]) n=(pz k n).set j ⟨x,true⟩:=by
 apply List.ext_getElem
 ·simp [pz]
 ·intro i h1 h2
  rw [List.getElem_set]
  simp only [pz,List.getElem_map,List.getElem_range]
  by_cases e:j=i
  ·subst e
   rw [if_pos rfl]
   unfold qH
   rw [AJ h,if_pos rfl]
  ·have e':¬(j:Int)=(i:Int):=by omega
   rw [if_neg e]
   unfold qH
   rw [AJ h,if_neg e']
theorem Om {n:Nat}:pz [] n=List.replicate n ⟨0,false⟩:=by
 apply List.ext_getElem
 ·simp [pz]
 ·intro i h1 h2;simp [pz,qH,fl]
theorem PJ {k:List au}(hn:(k.map (·.place)).Nodup){i:Nat}(hi:i<k.length):fl k k[i].place=some k[i].word:=by
 induction k generalizing i with
 | nil=>simp at hi
 | cons c k ih =>
  rw [List.map_cons,List.nodup_cons] at hn
  cases i with
  | zero=>simp [fl]
  | succ i =>
   simp only [List.getElem_cons_succ,List.length_cons] at hi ⊢
   have hi':i<k.length:=by omega
   unfold fl
   rw [if_neg (fun e=>hn.1 (by rw [e];exact List.mem_map.2 ⟨_,List.getElem_mem hi',rfl⟩))]
   exact ih hn.2 hi'
theorem L5.know {s:fR}{a x:Int}(h:L5 s)(hv:Kr s a=true)(hl:fl s.k a=none):L5 ⟨s.size,s.k++[⟨a,x⟩],s.l,s.need⟩:=by
 obtain⟨j,rfl,h1,h2⟩:=E2 hv
 refine⟨h.lo,h.hi,fun c hc=>?_,?_⟩
 ·rcases List.mem_append.1 hc with hc | hc
  ·exact h.places c hc
  ·rw [List.mem_singleton.1 hc];simp only;omega
 ·have hi:je s.k (j:Int)=none:=by
   have:=wP (cs:=s.k) (a:=(j:Int))
   rw [hl] at this
   simpa using this
  rw [List.map_append,List.nodup_append]
  refine⟨h.nodup,by simp,fun p hp q hq=>?_⟩
  simp only [List.map_cons,List.map_nil,List.mem_singleton] at hq
  obtain⟨c,hc,rfl⟩:=List.mem_map.1 hp
  rw [hq]
  exact(jb hi).2.2 c hc
theorem L5.log {s:fR}{l:kh}(h:L5 s):L5 (s.log l):=⟨h.lo,h.hi,h.places,h.nodup⟩
def br (b:Nat)(s:fR):ay:=mW fun vf=>mW fun vo=>mW fun lp=>bk (ie (ar vf [vf]∧ar vo [vo]∧L5 s)) (bk (bk (bk (own b [vf,vo,ptr lp 0,i64 s.need]) (sl qS vf (pz s.k s.size))) (sl bg vo (s.k.map (·.place)))) (ob dx lp s.l))
section
variable {w0:bh}{L M:List ay}{K:KV}{F:World→Prop}{C:ay→List ay}{b lp:Nat}{a x n:Int}{s:fR}{v vf vo:Value}
theorem du:G w0 (ob br b s::M) F=∀vf vo lp,(ar vf [vf]∧ar vo [vo]∧L5 s)→G w0 (own b [vf,vo,ptr lp 0,i64 s.need]::sl qS vf (pz s.k s.size)::sl bg vo (s.k.map (·.place))::ob dx lp s.l::M) F:=by
 rw [eZ,br]
 simp only [qv,fa,fU]
theorem fO {fs:List zb}{ps:List Int}(b lp:Nat)(s:fR) [ez [own b [vf,vo,ptr lp 0,i64 s.need],sl qS vf fs,sl bg vo ps,ob dx lp s.l] L M](e1:fs=pz s.k s.size)(e2:ps=s.k.map (·.place))(h:ar vf [vf]∧ar vo [vo]∧L5 s)(H:G w0 (ob br b s::M) F):G w0 L F :=
 G.pickAll (As:=[own b [vf,vo,ptr lp 0,i64 s.need],sl qS vf fs,sl bg vo ps,ob dx lp s.l]) (by subst e1;subst e2;rw [du] at H;exact H vf vo lp h)
theorem Uv {w m:Int}{K':KV}{lp:Nat}(hv:ar vf [vf])(hK:∀b,G w0 (ob br b ⟨(held w 32 256).toNat,[],⟨held m 0 96,⟨[],[]⟩,[]⟩,0⟩::L) (K' (ptr b 0))) :
  G w0 (sl qS vf (List.replicate (held w 32 256).toNat ⟨0,false⟩)::ob dx lp ⟨held m 0 96,⟨[],[]⟩,[]⟩::L) (dr (.agg #[vf,.slice none 0 0,ptr lp 0,i64 0]) K'):=by
 have hb:=ft (n:=w) (show (32:Int)≤256 by omega)
 refine G.nilsl bg ?_
 refine G.box (cs:=[vf,.slice none 0 0,ptr lp 0,i64 0]) fun b=>?_
 refine fO (vf:=vf) (vo:=.slice none 0 0) b lp ⟨(held w 32 256).toNat,[],⟨held m 0 96,⟨[],[]⟩,[]⟩,0⟩ Om.symm (show ([]:List Int)=[] from rfl) ⟨hv,be,by show 32≤(held w 32 256).toNat;omega,by show (held w 32 256).toNat≤256;omega,by simp,by simp⟩ ?_
 exact hK b
theorem Ma {w m:Int}(hK:∀b,G w0 (ob br b ⟨(held w 32 256).toNat,[],⟨held m 0 96,⟨[],[]⟩,[]⟩,0⟩::L) (K (ptr b 0))):G w0 L (CP Tryz.prog Ye [i64 w,i64 m] K):=by
 have hb:=ft (n:=w) (show (32:Int)≤256 by omega)
 have e3:(if (if (256:Int)<w then (256:Int) else w) > 32 then (if (256:Int)<w then (256:Int) else w) else 32)=((held w 32 256).toNat:Int):=by
  unfold held;split <;> split <;> split <;> (try split) <;> omega
 refine Mk ?_
 unfold EI
 refine G.drew ?_
 refine gr ?_
 rw [e3]
 refine⟨?_,?_⟩
 ·refine G.make qS ⟨0,false⟩ rfl (by simp only [maxLen];omega) (by omega) fun v hv=>?_
  refine gg ?_
  refine A2 fun lp=>?_
  refine gg ?_
  refine G.take1 (P7 qS) v ?_
  refine Uv hv fun b=>?_
  refine gr ?_
  exact hK b
 ·refine A2 fun lp=>?_
  refine gg ?_
  refine G.make qS ⟨0,false⟩ rfl (by simp only [maxLen];omega) (by omega) fun v hv=>?_
  refine gg ?_
  refine Uv hv fun b=>?_
  refine gr ?_
  exact hK b
theorem Da [i:aq L br b s C](hK:G w0 L (K (i64 s.size))):G w0 L (CP Tryz.prog WF [ptr b 0] K):=by
 refine i.ro (fun M hK=>?_) hK
 rw [du] at *
 intro vf vo lp h
 have hK:=hK vf vo lp h
 have hl:=Hn (k:=s.k) (n:=s.size)
 refine Cl ?_
 unfold sK
 refine eY hl ?_
 exact hK
theorem v9 [i:aq L br b s C](hK:G w0 L (K (i64 s.need))):G w0 L (CP Tryz.prog VJ [ptr b 0] K):=by
 refine i.ro (fun M hK=>?_) hK
 rw [du] at *
 intro vf vo lp h
 have hK:=hK vf vo lp h
 refine CB ?_
 unfold sH
 refine gr ?_
 exact hK
theorem xZ [i:aq L br b s C](hK:G w0 L (K (.bool (Kr s a)))):G w0 L (CP Tryz.prog Vu [ptr b 0,i64 a] K):=by
 refine i.ro (fun M hK=>?_) hK
 rw [du] at *
 intro vf vo lp h
 have hK:=hK vf vo lp h
 have hl:=Hn (k:=s.k) (n:=s.size)
 refine Et ?_
 unfold wS
 refine gu ?_
 refine eY hl ?_
 refine G.all (decide (a<s.size)) (fun _ K hK=>by refine eY hl ?_;exact hK) ?_
 exact hK
theorem Ib [i:aq L br b s C](hK:G w0 (C (ob br b (se s a x).1)) (K (i64 (se s a x).2))):G w0 L (CP Tryz.prog YJ [ptr b 0,i64 a,u64 x] K):=by
 refine i.use (fun M hK=>?_) hK
 refine AR ?_
 unfold rG
 refine xZ (s:=s) ?_
 unfold se at hK
 cases hv:Kr s a with
 | false =>
  rw [hv] at hK
  refine gr ?_
  exact hK
 | true =>
  rw [hv,if_pos rfl] at hK
  rw [du]
  rintro vf vo lp ⟨h1,h2,h3⟩
  refine gr ?_
  refine py (b:=lp) (s:=s.l) ?_
  refine fO b lp (s.log (Qv s.l a x).1) rfl rfl ⟨h1,h2,h3.log⟩ ?_
  exact hK
theorem JF [i:aq L br b s C](hK:G w0 (C (ob br b (s.log (lK s.l).1))) (K (i64 (lK s.l).2))):G w0 L (CP Tryz.prog YR [ptr b 0] K):=by
 refine i.use (fun M hK=>?_) hK
 refine Ca ?_
 unfold sr
 rw [du]
 rintro vf vo lp ⟨h1,h2,h3⟩
 refine gr ?_
 refine wg (b:=lp) (s:=s.l) ?_
 refine fO b lp (s.log (lK s.l).1) rfl rfl ⟨h1,h2,h3.log⟩ ?_
 exact hK
theorem Ds [i:aq L br b s C](hK:G w0 (C (ob br b (s.log (fX s.l).1))) (K (i64 (fX s.l).2))):G w0 L (CP Tryz.prog WI [ptr b 0] K):=by
 refine i.use (fun M hK=>?_) hK
 refine Cf ?_
 unfold sG
 rw [du]
 rintro vf vo lp ⟨h1,h2,h3⟩
 refine gr ?_
 refine we (b:=lp) (s:=s.l) ?_
 refine fO b lp (s.log (fX s.l).1) rfl rfl ⟨h1,h2,h3.log⟩ ?_
 exact hK
theorem Dd [i:aq L br b s C](hf:s.l.frees.length≤1000000)(hK:G w0 (C (ob br b (s.log (m9 s.l).1))) (K (i64 (m9 s.l).2))):G w0 L (CP Tryz.prog VD [ptr b 0] K):=by
 refine i.use (fun M hK=>?_) hK
 refine CQ ?_
 unfold sk
 rw [du]
 rintro vf vo lp ⟨h1,h2,h3⟩
 refine gr ?_
 refine wj (b:=lp) (s:=s.l) hf ?_
 refine fO b lp (s.log (m9 s.l).1) rfl rfl ⟨h1,h2,h3.log⟩ ?_
 exact hK
theorem JW [i:aq L br b s C](hf:s.l.r.f.length≤1000000)(hK:G w0 (C (ob br b (s.log (s.l.free n)))) (K (.tuple #[]))):G w0 L (CP Tryz.prog YQ [ptr b 0,i64 n] K):=by
 refine i.use (fun M hK=>?_) hK
 refine Ce ?_
 unfold sQ
 rw [du]
 rintro vf vo lp ⟨h1,h2,h3⟩
 refine gr ?_
 refine wX (b:=lp) (s:=s.l) hf ?_
 refine fO b lp (s.log (s.l.free n)) rfl rfl ⟨h1,h2,h3.log⟩ ?_
 exact hK
theorem Bk [i:aq L br b s C](hK:∀u,ar u [u]→G w0 (sl bf u s.l.cells::L) (K u)):G w0 L (CP Tryz.prog Wq [ptr b 0] K):=by
 refine i.roN (fun M hK=>?_) hK
 refine BK ?_
 unfold rN
 rw [du]
 rintro vf vo lp ⟨h1,h2,h3⟩
 refine gr ?_
 refine uW (b:=lp) (s:=s.l) fun u hu=>?_
 refine gr ?_
 refine fO b lp s rfl rfl ⟨h1,h2,h3⟩ ?_
 exact(hK u hu).sub
theorem I7 [i:aq L br b s C](hf:s.l.frees.length≤1000000)(hK:∀u,ar u [u]→G w0 (sl bg u s.l.frees::L) (K u)):G w0 L (CP Tryz.prog Ya [ptr b 0] K):=by
 refine i.roN (fun M hK=>?_) hK
 refine AC ?_
 unfold rH
 rw [du]
 rintro vf vo lp ⟨h1,h2,h3⟩
 refine gr ?_
 refine uP (b:=lp) (s:=s.l) hf fun u hu=>?_
 refine gr ?_
 refine fO b lp s rfl rfl ⟨h1,h2,h3⟩ ?_
 exact(hK u hu).sub
theorem JG [i:aq L br b s C](hk:s.k.length≤1000000)(hK:G w0 (C (ob br b (yJ s a x).1)) (K (i64 (yJ s a x).2))):G w0 L (CP Tryz.prog Yz [ptr b 0,i64 a,u64 x] K):=by
 refine i.use (fun M hK=>?_) hK
 refine Cp ?_
 unfold sX
 refine xZ (s:=s) ?_
 unfold yJ at hK
 cases hv:Kr s a with
 | false =>
  rw [hv] at hK
  refine gr ?_
  exact hK
 | true =>
  rw [hv,if_pos rfl] at hK
  obtain⟨j,rfl,hj1,hj2⟩:=E2 hv
  rw [du]
  rintro vf vo lp ⟨h1,h2,h3⟩
  have e:=zu (k:=s.k) hj2
  cases hl:fl s.k (j:Int) with
  | some y =>
   rw [show qH s.k (j:Int)=⟨y,true⟩ by unfold qH;rw [hl]] at e
   rw [hl] at hK
   dsimp only at hK
   refine gr ?_
   refine G.new fun q=>?_
   by_cases hy:y=x
   ·rw [if_pos hy,du] at hK
    refine eY hy ?_
    exact(hK vf vo lp ⟨h1,h2,h3⟩).sub
   ·rw [if_neg hy,du] at hK
    refine eY hy ?_
    exact(hK vf vo lp ⟨h1,h2,h3⟩).sub
  | none =>
   rw [show qH s.k (j:Int)=⟨0,false⟩ by unfold qH;rw [hl]] at e
   rw [hl] at hK
   dsimp only at hK
   have h4:=h3.know (x:=x) hv hl
   refine gr ?_
   refine G.new fun q=>?_
   refine gr ?_
   refine G.append1 (E:=bg) (a:=(j:Int)) rfl rfl (by decide) (by simp;omega) (by simp only [maxLen,List.length_map];omega) fun u hu=>?_
   refine gr ?_
   refine fO b lp ⟨s.size,s.k++[⟨j,x⟩],s.l,s.need⟩ (Ly hj2 hl).symm (show s.k.map (·.place)++[(j:Int)]=(s.k++[(⟨j,x⟩:au)]).map (fun c:au=>c.place) by simp) ⟨h1,hu,h4⟩ ?_
   exact hK.sub
theorem lu [i:aq L br b s C](hK:G w0 (C (ob br b (cr s a).1)) (K (.tuple #[u64 (cr s a).2.1,i64 (cr s a).2.2]))):G w0 L (CP Tryz.prog Or [ptr b 0,i64 a] K):=by
 refine i.use (fun M hK=>?_) hK
 refine Cx ?_
 unfold sD
 refine xZ (s:=s) ?_
 unfold cr at hK
 cases hv:Kr s a with
 | false =>
  rw [hv] at hK
  refine gr ?_
  exact hK
 | true =>
  rw [hv,if_pos rfl] at hK
  obtain⟨j,rfl,hj1,hj2⟩:=E2 hv
  rw [du]
  rintro vf vo lp ⟨h1,h2,h3⟩
  have e:=zu (k:=s.k) hj2
  refine gr ?_
  refine yu (b:=lp) (s:=s.l) ?_
  unfold Iz
  cases hr:qj (s.l.r::s.l.up) (j:Int) with
  | some y =>
   rw [hr] at hK
   dsimp only at hK
   rw [du] at hK
   refine gr ?_
   exact hK vf vo lp ⟨h1,h2,h3⟩
  | none =>
   rw [hr] at hK
   dsimp only at hK
   cases hl:fl s.k (j:Int) with
   | some y =>
    rw [show qH s.k (j:Int)=⟨y,true⟩ by unfold qH;rw [hl]] at e
    rw [hl] at hK
    dsimp only at hK
    rw [du] at hK
    refine gr ?_
    refine G.new fun q=>?_
    refine gr ?_
    exact(hK vf vo lp ⟨h1,h2,h3⟩).sub
   | none =>
    rw [show qH s.k (j:Int)=⟨0,false⟩ by unfold qH;rw [hl]] at e
    rw [hl] at hK
    dsimp only at hK
    rw [du] at hK
    refine gr ?_
    refine G.new fun q=>?_
    refine gr ?_
    exact(hK vf vo lp ⟨h1,h2,h3.lo,h3.hi,h3.places,h3.nodup⟩).sub
theorem IH [i:aq L br b s C](hk:s.k.length≤1000000)(hK:∀u,ar u [u]→G w0 (sl bf u s.k::L) (K u)):G w0 L (CP Tryz.prog Yc [ptr b 0] K):=by
 refine i.roN (fun M hK=>?_) hK
 refine BB ?_
 unfold rI
 rw [du]
 rintro vf vo lp ⟨h1,h2,h3⟩
 have hll:(s.k.map (·.place)).length=s.k.length:=by simp
 refine eY hll ?_
 refine G.make2 (l:=0) (c:=s.k.length) bf ⟨0,0⟩ rfl (by omega) (by simp only [maxLen];omega) (by omega) fun u hu=>?_
 refine eY hll ?_
 refine G.loop2 (σ:=Value×Nat) (fun z=>z.1) (fun z=>i64 z.2) (fun z=>sl bf z.1 (s.k.take z.2)::own b [vf,vo,ptr lp 0,i64 s.need]::sl qS vf (pz s.k s.size)::sl bg vo (s.k.map (·.place))::ob dx lp s.l::M) (fun z=>z.2≤s.k.length∧ar z.1 [z.1]) (fun z=>s.k.length-z.2) (u,0) rfl rfl rfl ⟨by simp,hu⟩ ?_
 rintro⟨u,j⟩ ⟨hj,hu⟩ J hJ
 simp only at hj hu hJ ⊢
 refine gr ?_
 refine G.cond (fun h=>?_) (fun h=>?_)
 ·have hj2:j<s.k.length:=by simpa using h
  have e1:eU (s.k.map (·.place)) j s.k[j].place:=⟨by simp [hj2]⟩
  have hp:=h3.places _ (List.getElem_mem hj2)
  obtain⟨m,hm⟩:=Int.eq_ofNat_of_zero_le (show 0≤s.k[j].place by omega)
  have ix:ij s.k[j].place m:=⟨hm⟩
  have e2:=zu (k:=s.k) (n:=s.size) (j:=m) (by omega)
  have hlk:=PJ h3.nodup hj2
  rw [show qH s.k (m:Int)=⟨s.k[j].word,true⟩ by unfold qH;rw [←hm,hlk]] at e2
  refine gr ?_
  refine G.append1 (E:=bf) (a:=s.k[j]) rfl rfl (by decide) (by simp;omega) (by simp only [maxLen,List.length_take];omega) fun u2 hu2=>?_
  refine gr ?_
  rw [di (by omega)]
  have h:=hJ (u2,j+1) ⟨hj2,hu2⟩ (by simp;omega)
  have ek:s.k.take (j+1)=s.k.take j++[s.k[j]]:=by rw [List.take_add_one,List.getElem?_eq_getElem hj2];rfl
  simp only [ek] at h
  exact h.sub
 ·have ht:s.k.take j=s.k:=List.take_of_length_le (by simpa using h)
  rw [ht]
  refine fO b lp s rfl rfl ⟨h1,h2,h3⟩ ?_
  exact(hK u hu).sub
theorem rR {l:List au}[i:aq L br b s C][r:∀A,Rd w0 (C A) v bf 2 l](hl:l.length≤1000000)(hK:G w0 (C (ob br b (gU s l).1)) (K (i64 (gU s l).2))):G w0 L (CP Tryz.prog Vp [ptr b 0,v] K):=by
 refine i.useM (fun M hM hK=>?_) hK
 have r':=Rd.frame hM r
 refine Cd ?_
 unfold sY
 refine gr ?_
 refine G.loop1 (fun k:Nat=>i64 k) (fun _=>ob br b s::M) (fun k=>k≤l.length∧(l.take k).all (fun c=>Kr s c.place)=true) (fun k=>l.length-k) 0 rfl rfl ⟨by simp,by simp⟩ ?_
 rintro k ⟨hk,hp⟩ J hJ
 refine gr ?_
 refine G.cond (fun h=>?_) (fun h=>?_)
 ·have hk2:k<l.length:=by simpa using h
  have e:=ct hk2
  refine gr ?_
  refine G.new fun q=>?_
  refine gr ?_
  refine xZ (s:=s) ?_
  cases hv:Kr s l[k].place with
  | false =>
   have h4:gU s l=(s,2):=by
    unfold gU
    rw [if_neg]
    intro hall
    rw [List.all_eq_true] at hall
    rw [hall _ (List.getElem_mem hk2)] at hv
    cases hv
   rw [h4] at hK
   refine gr ?_
   exact hK.sub
  | true =>
   refine gr ?_
   rw [di (by omega)]
   refine(hJ (k+1) ⟨hk2,?_⟩ (by omega)).sub
   rw [List.take_add_one,List.getElem?_eq_getElem hk2,List.all_append,hp]
   simp [hv]
 ·have ht:l.take k=l:=List.take_of_length_le (by simpa using h)
  rw [ht] at hp
  unfold gU at hK
  rw [if_pos hp] at hK
  rw [du]
  rintro vf vo lp ⟨h1,h2,h3⟩
  refine gr ?_
  refine wY (b:=lp) (s:=s.l) (l:=l) hl ?_
  refine fO b lp (s.log (pu s.l l).1) rfl rfl ⟨h1,h2,h3.log⟩ ?_
  exact hK
end
end Go.Proofs.YtoealglbimbbmaaGreatDoor.S
