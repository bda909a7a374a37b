import Derived.Test.YtoealglbimbbmaaGreatDoorLevels
namespace Go.Proofs.YtoealglbimbbmaaGreatDoor.S
open Go Go.Proofs
set_option linter.unusedVariables false
set_option linter.unusedSimpArgs false
structure fh where
 size:Nat
 k:List aw
 l:jS
 need:Int
structure MG (s:fh):Prop where
 lo:32≤s.size
 hi:s.size≤256
 places:∀c∈s.k,1≤c.place∧c.place<s.size
 nodup:(s.k.map (·.place)).Nodup
def qS (k:List aw)(a:Int):zP:=match eI k a with | some x=>⟨x,true⟩ | none=>⟨0,false⟩
def o5 (k:List aw)(n:Nat):List zP:=(List.range n).map fun i:Nat=>qS k i
def LS (s:fh)(a:Int):Bool:=decide (1≤a) && decide (a<s.size)
def oY (s:fh)(a x:Int):fh×Int:=if LS s a then (match eI s.k a with | some y=>(s,if y=x then 0 else 14) | none=>(⟨s.size,s.k++[⟨a,x⟩],s.l,s.need⟩,0)) else (s,2)
def cZ (s:fh)(a:Int):fh×Int×Int:=if LS s a then (match pU (s.l.r::s.l.up) a with | some x=>(s,x,0) | none=>match eI s.k a with | some x=>(s,x,0) | none=>(⟨s.size,s.k,s.l,a⟩,0,11)) else (s,0,2)
abbrev fh.log (s:fh)(l:jS):fh:=⟨s.size,s.k,l,s.need⟩
abbrev Sd (s:jS)(a x:Int):jS×Int:=(if kY s a=0 then s.put a x else s,kY s a)
def oJ (s:fh)(a x:Int):fh×Int:=if LS s a then (s.log (Sd s.l a x).1,(Sd s.l a x).2) else (s,2)
def gj (s:fh)(l:List aw):fh×Int:=if l.all (fun c=>LS s c.place) then (s.log (o8 s.l l).1,(o8 s.l l).2) else (s,2)
theorem GI {s:fh}{a:Int}(h:LS s a=true):∃j:Nat,a=j∧1≤j∧j<s.size:=by
 simp [LS] at h
 exact⟨a.toNat,by omega,by omega,by omega⟩
theorem Au {k:List aw}{n j:Nat}(h:j<n):eA (o5 k n) j (qS k j):=⟨by simp [o5,h]⟩
theorem IP {k:List aw}{n:Nat}:(o5 k n).length=n:=by simp [o5]
theorem Bb {k:List aw}{a x b:Int}(h:eI k a=none):eI (k++[⟨a,x⟩]) b=if a=b then some x else eI k b:=by
 have hi:iT k a=none:=by
  have:=xr (cs:=k) (a:=a)
  rw [h] at this
  simpa using this
 rw [←(iQ hi).1 x,I1]
theorem N3 {k:List aw}{n j:Nat}{x:Int}(hj:j<n)(h:eI k (j:Int)=none):o5 (k++[⟨j,x⟩]) n=(o5 k n).set j ⟨x,true⟩:=by
 apply List.ext_getElem
 ·simp [o5]
 ·intro i h1 h2
  rw [List.getElem_set]
  simp only [o5,List.getElem_map,List.getElem_range]
  by_cases e:j=i
  ·subst e
   rw [if_pos rfl]
   unfold qS
   rw [Bb h,if_pos rfl]
  ·have e':¬(j:Int)=(i:Int):=by omega
   rw [if_neg e]
   unfold qS
   rw [Bb h,if_neg e']
theorem Qu {n:Nat}:o5 [] n=List.replicate n ⟨0,false⟩:=by
 apply List.ext_getElem
 ·simp [o5]
 ·intro i h1 h2;simp [o5,qS,eI]
theorem RF {k:List aw}(hn:(k.map (·.place)).Nodup){i:Nat}(hi:i<k.length):eI k k[i].place=some k[i].word:=by
 induction k generalizing i with
 | nil=>simp at hi
 | cons c k ih =>
  rw [List.map_cons,List.nodup_cons] at hn
  cases i with
  | zero=>simp [eI]
  | succ i =>
   simp only [List.getElem_cons_succ,List.length_cons] at hi ⊢
   have hi':i<k.length:=by omega
   unfold eI
   rw [if_neg (fun e=>hn.1 (by rw [e];exact List.mem_map.2 ⟨_,List.getElem_mem hi',rfl⟩))]
   exact ih hn.2 hi'
theorem MG.know {s:fh}{a x:Int}(h:MG s)(hv:LS s a=true)(hl:eI s.k a=none):MG ⟨s.size,s.k++[⟨a,x⟩],s.l,s.need⟩:=by
 obtain⟨j,rfl,h1,h2⟩:=GI hv
 refine⟨h.lo,h.hi,fun c hc=>?_,?_⟩
 ·rcases List.mem_append.1 hc with hc | hc
  ·exact h.places c hc
  ·rw [List.mem_singleton.1 hc];simp only;omega
 ·have hi:iT s.k (j:Int)=none:=by
   have:=xr (cs:=s.k) (a:=(j:Int))
   rw [hl] at this
   simpa using this
  rw [List.map_append,List.nodup_append]
  refine⟨h.nodup,by simp,fun p hp q hq=>?_⟩
  simp only [List.map_cons,List.map_nil,List.mem_singleton] at hq
  obtain⟨c,hc,rfl⟩:=List.mem_map.1 hp
  rw [hq]
  exact(iQ hi).2.2 c hc
theorem MG.log {s:fh}{l:jS}(h:MG s):MG (s.log l):=⟨h.lo,h.hi,h.places,h.nodup⟩
def ba (b:Nat)(s:fh):ax:=jX fun vf=>jX fun vo=>jX fun lp=>bu (fS (av vf [vf]∧av vo [vo]∧MG s)) (bu (bu (bu (own b [vf,vo,ptr lp 0,i64 s.need]) (sl qp vf (o5 s.k s.size))) (sl cd vo (s.k.map (·.place)))) (ob eD lp s.l))
section
variable {w0:bg}{L M:List ax}{K:KV}{F:World→Prop}{C:ax→List ax}{b lp:Nat}{a x n:Int}{s:fh}{v vf vo:Value}
theorem dK:G w0 (ob ba b s::M) F=∀vf vo lp,(av vf [vf]∧av vo [vo]∧MG s)→G w0 (own b [vf,vo,ptr lp 0,i64 s.need]::sl qp vf (o5 s.k s.size)::sl cd vo (s.k.map (·.place))::ob eD lp s.l::M) F:=by
 rw [dO,ba]
 simp only [lT,dP,eS]
theorem ia {fs:List zP}{ps:List Int}(b lp:Nat)(s:fh) [cx [own b [vf,vo,ptr lp 0,i64 s.need],sl qp vf fs,sl cd vo ps,ob eD lp s.l] L M](e1:fs=o5 s.k s.size)(e2:ps=s.k.map (·.place))(h:av vf [vf]∧av vo [vo]∧MG s)(H:G w0 (ob ba b s::M) F):G w0 L F :=
 G.pickAll (As:=[own b [vf,vo,ptr lp 0,i64 s.need],sl qp vf fs,sl cd vo ps,ob eD lp s.l]) (by subst e1;subst e2;rw [dK] at H;exact H vf vo lp h)
theorem WG {w m:Int}{K':KV}{lp:Nat}(hv:av vf [vf])(hK:∀b,G w0 (ob ba b ⟨(held w 32 256).toNat,[],⟨held m 0 96,⟨[],[]⟩,[]⟩,0⟩::L) (K' (ptr b 0))) :
  G w0 (sl qp vf (List.replicate (held w 32 256).toNat ⟨0,false⟩)::ob eD lp ⟨held m 0 96,⟨[],[]⟩,[]⟩::L) (cn (.agg #[vf,.slice none 0 0,ptr lp 0,i64 0]) K'):=by
 have hb:=eQ (n:=w) (show (32:Int)≤256 by omega)
 refine G.nilsl cd ?_
 refine G.box (cs:=[vf,.slice none 0 0,ptr lp 0,i64 0]) fun b=>?_
 refine ia (vf:=vf) (vo:=.slice none 0 0) b lp ⟨(held w 32 256).toNat,[],⟨held m 0 96,⟨[],[]⟩,[]⟩,0⟩ Qu.symm (show ([]:List Int)=[] from rfl) ⟨hv,bf,by show 32≤(held w 32 256).toNat;omega,by show (held w 32 256).toNat≤256;omega,by simp,by simp⟩ ?_
 exact hK b
theorem GP {w m:Int}(hK:∀b,G w0 (ob ba b ⟨(held w 32 256).toNat,[],⟨held m 0 96,⟨[],[]⟩,[]⟩,0⟩::L) (K (ptr b 0))):G w0 L (CP Tryz.prog Y8 [i64 w,i64 m] K):=by
 have hb:=eQ (n:=w) (show (32:Int)≤256 by omega)
 have e3:(if (if (256:Int)<w then (256:Int) else w) > 32 then (if (256:Int)<w then (256:Int) else w) else 32)=((held w 32 256).toNat:Int):=by
  unfold held;split <;> split <;> split <;> (try split) <;> omega
 refine Od ?_
 unfold Gl
 refine G.drew ?_
 refine gr ?_
 rw [e3]
 refine⟨?_,?_⟩
 ·refine G.make qp ⟨0,false⟩ rfl (by simp only [maxLen];omega) (by omega) fun v hv=>?_
  refine gg ?_
  refine BP fun lp=>?_
  refine gg ?_
  refine G.take1 (TH qp) v ?_
  refine WG hv fun b=>?_
  refine gr ?_
  exact hK b
 ·refine BP fun lp=>?_
  refine gg ?_
  refine G.make qp ⟨0,false⟩ rfl (by simp only [maxLen];omega) (by omega) fun v hv=>?_
  refine gg ?_
  refine WG hv fun b=>?_
  refine gr ?_
  exact hK b
theorem wL [i:al L ba b s C](hK:G w0 L (K (i64 s.size))):G w0 L (CP Tryz.prog Ye [ptr b 0] K):=by
 refine i.ro (fun M hK=>?_) hK
 rw [dK] at *
 intro vf vo lp h
 have hK:=hK vf vo lp h
 have hl:=IP (k:=s.k) (n:=s.size)
 refine C0 ?_
 unfold sI
 refine dN hl ?_
 exact hK
theorem rn [i:al L ba b s C](hK:G w0 L (K (i64 s.need))):G w0 L (CP Tryz.prog XL [ptr b 0] K):=by
 refine i.ro (fun M hK=>?_) hK
 rw [dK] at *
 intro vf vo lp h
 have hK:=hK vf vo lp h
 refine Df ?_
 unfold ti
 refine gr ?_
 exact hK
theorem yo [i:al L ba b s C](hK:G w0 L (K (.bool (LS s a)))):G w0 L (CP Tryz.prog XQ [ptr b 0,i64 a] K):=by
 refine i.ro (fun M hK=>?_) hK
 rw [dK] at *
 intro vf vo lp h
 have hK:=hK vf vo lp h
 have hl:=IP (k:=s.k) (n:=s.size)
 refine GY ?_
 unfold wm
 refine gu ?_
 refine dN hl ?_
 refine G.all (decide (a<s.size)) (fun _ K hK=>by refine dN hl ?_;exact hK) ?_
 exact hK
theorem BQ [i:al L ba b s C](hK:G w0 (C (ob ba b (oJ s a x).1)) (K (i64 (oJ s a x).2))):G w0 L (CP Tryz.prog Zp [ptr b 0,i64 a,u64 x] K):=by
 refine i.use (fun M hK=>?_) hK
 refine BC ?_
 unfold rI
 refine yo (s:=s) ?_
 unfold oJ at hK
 cases hv:LS s a with
 | false =>
  rw [hv] at hK
  refine gr ?_
  exact hK
 | true =>
  rw [hv,if_pos rfl] at hK
  rw [dK]
  rintro vf vo lp ⟨h1,h2,h3⟩
  refine gr ?_
  refine o6 (b:=lp) (s:=s.l) ?_
  refine ia b lp (s.log (Sd s.l a x).1) rfl rfl ⟨h1,h2,h3.log⟩ ?_
  exact hK
theorem DR [i:al L ba b s C](hf:s.l.r.f.length≤1000000)(hK:G w0 (C (ob ba b (s.log (s.l.free n)))) (K (.tuple #[]))):G w0 L (CP Tryz.prog Zv [ptr b 0,i64 n] K):=by
 refine i.use (fun M hK=>?_) hK
 refine CZ ?_
 unfold sj
 rw [dK]
 rintro vf vo lp ⟨h1,h2,h3⟩
 refine gr ?_
 refine vT (b:=lp) (s:=s.l) hf ?_
 refine ia b lp (s.log (s.l.free n)) rfl rfl ⟨h1,h2,h3.log⟩ ?_
 exact hK
theorem pF [i:al L ba b s C](hK:∀u,av u [u]→G w0 (sl bd u s.l.cells::L) (K u)):G w0 L (CP Tryz.prog XM [ptr b 0] K):=by
 refine i.roN (fun M hK=>?_) hK
 refine Ce ?_
 unfold ru
 rw [dK]
 rintro vf vo lp ⟨h1,h2,h3⟩
 refine gr ?_
 refine u9 (b:=lp) (s:=s.l) fun u hu=>?_
 refine gr ?_
 refine ia b lp s rfl rfl ⟨h1,h2,h3⟩ ?_
 exact(hK u hu).sub
theorem CF [i:al L ba b s C](hf:s.l.frees.length≤1000000)(hK:∀u,av u [u]→G w0 (sl cd u s.l.frees::L) (K u)):G w0 L (CP Tryz.prog Y6 [ptr b 0] K):=by
 refine i.roN (fun M hK=>?_) hK
 refine Bf ?_
 unfold rD
 rw [dK]
 rintro vf vo lp ⟨h1,h2,h3⟩
 refine gr ?_
 refine uW (b:=lp) (s:=s.l) hf fun u hu=>?_
 refine gr ?_
 refine ia b lp s rfl rfl ⟨h1,h2,h3⟩ ?_
 exact(hK u hu).sub
theorem xz [i:al L ba b s C](hk:s.k.length≤1000000)(hK:G w0 (C (ob ba b (oY s a x).1)) (K (i64 (oY s a x).2))):G w0 L (CP Tryz.prog Yc [ptr b 0,i64 a,u64 x] K):=by
 refine i.use (fun M hK=>?_) hK
 refine CS ?_
 unfold so
 refine yo (s:=s) ?_
 unfold oY at hK
 cases hv:LS s a with
 | false =>
  rw [hv] at hK
  refine gr ?_
  exact hK
 | true =>
  rw [hv,if_pos rfl] at hK
  obtain⟨j,rfl,hj1,hj2⟩:=GI hv
  rw [dK]
  rintro vf vo lp ⟨h1,h2,h3⟩
  have e:=Au (k:=s.k) hj2
  cases hl:eI s.k (j:Int) with
  | some y =>
   rw [show qS s.k (j:Int)=⟨y,true⟩ by unfold qS;rw [hl]] at e
   rw [hl] at hK
   dsimp only at hK
   refine gr ?_
   refine G.new fun q=>?_
   by_cases hy:y=x
   ·rw [if_pos hy,dK] at hK
    refine dN hy ?_
    exact(hK vf vo lp ⟨h1,h2,h3⟩).sub
   ·rw [if_neg hy,dK] at hK
    refine dN hy ?_
    exact(hK vf vo lp ⟨h1,h2,h3⟩).sub
  | none =>
   rw [show qS s.k (j:Int)=⟨0,false⟩ by unfold qS;rw [hl]] at e
   rw [hl] at hK
   dsimp only at hK
   have h4:=h3.know (x:=x) hv hl
   refine gr ?_
   refine G.new fun q=>?_
   refine gr ?_
   refine G.append1 (E:=cd) (a:=(j:Int)) rfl rfl (by decide) (by simp;omega) (by simp only [maxLen,List.length_map];omega) fun u hu=>?_
   refine gr ?_
   refine ia b lp ⟨s.size,s.k++[⟨j,x⟩],s.l,s.need⟩ (N3 hj2 hl).symm (show s.k.map (·.place)++[(j:Int)]=(s.k++[(⟨j,x⟩:aw)]).map (fun c:aw=>c.place) by simp) ⟨h1,hu,h4⟩ ?_
   exact hK.sub
theorem ib [i:al L ba b s C](hK:G w0 (C (ob ba b (cZ s a).1)) (K (.tuple #[u64 (cZ s a).2.1,i64 (cZ s a).2.2]))):G w0 L (CP Tryz.prog Xl [ptr b 0,i64 a] K):=by
 refine i.use (fun M hK=>?_) hK
 refine Dg ?_
 unfold sH
 refine yo (s:=s) ?_
 unfold cZ at hK
 cases hv:LS s a with
 | false =>
  rw [hv] at hK
  refine gr ?_
  exact hK
 | true =>
  rw [hv,if_pos rfl] at hK
  obtain⟨j,rfl,hj1,hj2⟩:=GI hv
  rw [dK]
  rintro vf vo lp ⟨h1,h2,h3⟩
  have e:=Au (k:=s.k) hj2
  refine gr ?_
  refine yH (b:=lp) (s:=s.l) ?_
  unfold J6
  cases hr:pU (s.l.r::s.l.up) (j:Int) with
  | some y =>
   rw [hr] at hK
   dsimp only at hK
   rw [dK] at hK
   refine gr ?_
   exact hK vf vo lp ⟨h1,h2,h3⟩
  | none =>
   rw [hr] at hK
   dsimp only at hK
   cases hl:eI s.k (j:Int) with
   | some y =>
    rw [show qS s.k (j:Int)=⟨y,true⟩ by unfold qS;rw [hl]] at e
    rw [hl] at hK
    dsimp only at hK
    rw [dK] at hK
    refine gr ?_
    refine G.new fun q=>?_
    refine gr ?_
    exact(hK vf vo lp ⟨h1,h2,h3⟩).sub
   | none =>
    rw [show qS s.k (j:Int)=⟨0,false⟩ by unfold qS;rw [hl]] at e
    rw [hl] at hK
    dsimp only at hK
    rw [dK] at hK
    refine gr ?_
    refine G.new fun q=>?_
    refine gr ?_
    exact(hK vf vo lp ⟨h1,h2,h3.lo,h3.hi,h3.places,h3.nodup⟩).sub
theorem Bd [i:al L ba b s C](hk:s.k.length≤1000000)(hK:∀u,av u [u]→G w0 (sl bd u s.k::L) (K u)):G w0 L (CP Tryz.prog Y7 [ptr b 0] K):=by
 refine i.roN (fun M hK=>?_) hK
 refine Cq ?_
 unfold rl
 rw [dK]
 rintro vf vo lp ⟨h1,h2,h3⟩
 have hll:(s.k.map (·.place)).length=s.k.length:=by simp
 refine dN hll ?_
 refine G.make2 (l:=0) (c:=s.k.length) bd ⟨0,0⟩ rfl (by omega) (by simp only [maxLen];omega) (by omega) fun u hu=>?_
 refine dN hll ?_
 refine G.loop2 (σ:=Value×Nat) (fun z=>z.1) (fun z=>i64 z.2) (fun z=>sl bd z.1 (s.k.take z.2)::own b [vf,vo,ptr lp 0,i64 s.need]::sl qp vf (o5 s.k s.size)::sl cd vo (s.k.map (·.place))::ob eD lp s.l::M) (fun z=>z.2≤s.k.length∧av z.1 [z.1]) (fun z=>s.k.length-z.2) (u,0) rfl rfl rfl ⟨by simp,hu⟩ ?_
 rintro⟨u,j⟩ ⟨hj,hu⟩ J hJ
 simp only at hj hu hJ ⊢
 refine gr ?_
 refine G.cond (fun h=>?_) (fun h=>?_)
 ·have hj2:j<s.k.length:=by simpa using h
  have e1:eA (s.k.map (·.place)) j s.k[j].place:=⟨by simp [hj2]⟩
  have hp:=h3.places _ (List.getElem_mem hj2)
  obtain⟨m,hm⟩:=Int.eq_ofNat_of_zero_le (show 0≤s.k[j].place by omega)
  have ix:iA s.k[j].place m:=⟨hm⟩
  have e2:=Au (k:=s.k) (n:=s.size) (j:=m) (by omega)
  have hlk:=RF h3.nodup hj2
  rw [show qS s.k (m:Int)=⟨s.k[j].word,true⟩ by unfold qS;rw [←hm,hlk]] at e2
  refine gr ?_
  refine G.append1 (E:=bd) (a:=s.k[j]) rfl rfl (by decide) (by simp;omega) (by simp only [maxLen,List.length_take];omega) fun u2 hu2=>?_
  refine gr ?_
  rw [dt (by omega)]
  have h:=hJ (u2,j+1) ⟨hj2,hu2⟩ (by simp;omega)
  have ek:s.k.take (j+1)=s.k.take j++[s.k[j]]:=by rw [List.take_add_one,List.getElem?_eq_getElem hj2];rfl
  simp only [ek] at h
  exact h.sub
 ·have ht:s.k.take j=s.k:=List.take_of_length_le (by simpa using h)
  rw [ht]
  refine ia b lp s rfl rfl ⟨h1,h2,h3⟩ ?_
  exact(hK u hu).sub
theorem nE {l:List aw}[i:al L ba b s C][r:∀A,Rd w0 (C A) v bd 2 l](hl:l.length≤1000000)(hK:G w0 (C (ob ba b (gj s l).1)) (K (i64 (gj s l).2))):G w0 L (CP Tryz.prog Xy [ptr b 0,v] K):=by
 refine i.useM (fun M hM hK=>?_) hK
 have r':=Rd.frame hM r
 refine Dn ?_
 unfold sR
 refine gr ?_
 refine G.loop1 (fun k:Nat=>i64 k) (fun _=>ob ba b s::M) (fun k=>k≤l.length∧(l.take k).all (fun c=>LS s c.place)=true) (fun k=>l.length-k) 0 rfl rfl ⟨by simp,by simp⟩ ?_
 rintro k ⟨hk,hp⟩ J hJ
 refine gr ?_
 refine G.cond (fun h=>?_) (fun h=>?_)
 ·have hk2:k<l.length:=by simpa using h
  have e:=cW hk2
  refine gr ?_
  refine G.new fun q=>?_
  refine gr ?_
  refine yo (s:=s) ?_
  cases hv:LS s l[k].place with
  | false =>
   have h4:gj s l=(s,2):=by
    unfold gj
    rw [if_neg]
    intro hall
    rw [List.all_eq_true] at hall
    rw [hall _ (List.getElem_mem hk2)] at hv
    cases hv
   rw [h4] at hK
   refine gr ?_
   exact hK.sub
  | true =>
   refine gr ?_
   rw [dt (by omega)]
   refine(hJ (k+1) ⟨hk2,?_⟩ (by omega)).sub
   rw [List.take_add_one,List.getElem?_eq_getElem hk2,List.all_append,hp]
   simp [hv]
 ·have ht:l.take k=l:=List.take_of_length_le (by simpa using h)
  rw [ht] at hp
  unfold gj at hK
  rw [if_pos hp] at hK
  rw [dK]
  rintro vf vo lp ⟨h1,h2,h3⟩
  refine gr ?_
  refine vW (b:=lp) (s:=s.l) (l:=l) hl ?_
  refine ia b lp (s.log (o8 s.l l).1) rfl rfl ⟨h1,h2,h3.log⟩ ?_
  exact hK
end
end Go.Proofs.YtoealglbimbbmaaGreatDoor.S
