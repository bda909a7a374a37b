import Derived.Test.YtoealglbimbbmaaGreatDoorLevels
namespace Go.Proofs.YtoealglbimbbmaaGreatDoor.S
open Go Go.Proofs
set_option linter.unusedVariables false
set_option linter.unusedSimpArgs false
structure fa where
 size:Nat
 k:List av
 l:jl
 need:Int
structure Jh (s:fa):Prop where
 lo:32≤s.size
 hi:s.size≤256
 places:∀c∈s.k,1≤c.place∧c.place<s.size
 nodup:(s.k.map (·.place)).Nodup
def qb (k:List av)(a:Int):yi:=match dD k a with | some x=>⟨x,true⟩ | none=>⟨0,false⟩
def o6 (k:List av)(n:Nat):List yi:=(List.range n).map fun i:Nat=>qb k i
def Kp (s:fa)(a:Int):Bool:=decide (1≤a) && decide (a<s.size)
def lL (s:fa)(a x:Int):fa×Int:=if Kp s a then (match dD s.k a with | some y=>(s,if y=x then 0 else 14) | none=>(⟨s.size,s.k++[⟨a,x⟩],s.l,s.need⟩,0)) else (s,2)
def cr (s:fa)(a:Int):fa×Int×Int:=if Kp s a then (match oy (s.l.r::s.l.up) a with | some x=>(s,x,0) | none=>match dD s.k a with | some x=>(s,x,0) | none=>(⟨s.size,s.k,s.l,a⟩,0,11)) else (s,0,2)
abbrev fa.log (s:fa)(l:jl):fa:=⟨s.size,s.k,l,s.need⟩
abbrev NG (s:jl)(a x:Int):jl×Int:=(if jj s a=0 then s.put a x else s,jj s a)
def j4 (s:fa)(a x:Int):fa×Int:=if Kp s a then (s.log (NG s.l a x).1,(NG s.l a x).2) else (s,2)
def fJ (s:fa)(l:List av):fa×Int:=if l.all (fun c=>Kp s c.place) then (s.log (lG s.l l).1,(lG s.l l).2) else (s,2)
theorem EP {s:fa}{a:Int}(h:Kp s a=true):∃j:Nat,a=j∧1≤j∧j<s.size:=by
 simp [Kp] at h
 exact⟨a.toNat,by omega,by omega,by omega⟩
theorem yM {k:List av}{n j:Nat}(h:j<n):fe (o6 k n) j (qb k j):=⟨by simp [o6,h]⟩
theorem G8 {k:List av}{n:Nat}:(o6 k n).length=n:=by simp [o6]
theorem zT {k:List av}{a x b:Int}(h:dD k a=none):dD (k++[⟨a,x⟩]) b=if a=b then some x else dD k b:=by
 have hi:iY k a=none:=by
  have:=rh (cs:=k) (a:=a)
  rw [h] at this
  simpa using this
 rw [←(i6 hi).1 x,Bv]
theorem KP {k:List av}{n j:Nat}{x:Int}(hj:j<n)(h:dD k (j:Int)=none):o6 (k++[⟨j,x⟩]) n=(o6 k n).set j ⟨x,true⟩:=by
 apply List.ext_getElem
 ·simp [o6]
 ·intro i h1 h2
  rw [List.getElem_set]
  simp only [o6,List.getElem_map,List.getElem_range]
  by_cases e:j=i
  ·subst e
   rw [if_pos rfl]
   unfold qb
   rw [zT h,if_pos rfl]
  ·have e':¬(j:Int)=(i:Int):=by omega
   rw [if_neg e]
   unfold qb
   rw [zT h,if_neg e']
theorem NN {n:Nat}:o6 [] n=List.replicate n ⟨0,false⟩:=by
 apply List.ext_getElem
 ·simp [o6]
 ·intro i h1 h2;simp [o6,qb,dD]
theorem Pk {k:List av}(hn:(k.map (·.place)).Nodup){i:Nat}(hi:i<k.length):dD k k[i].place=some k[i].word:=by
 induction k generalizing i with
 | nil=>simp at hi
 | cons c k ih =>
  rw [List.map_cons,List.nodup_cons] at hn
  cases i with
  | zero=>simp [dD]
  | succ i =>
   simp only [List.getElem_cons_succ,List.length_cons] at hi ⊢
   have hi':i<k.length:=by omega
   unfold dD
   rw [if_neg (fun e=>hn.1 (by rw [e];exact List.mem_map.2 ⟨_,List.getElem_mem hi',rfl⟩))]
   exact ih hn.2 hi'
theorem Jh.know {s:fa}{a x:Int}(h:Jh s)(hv:Kp s a=true)(hl:dD s.k a=none):Jh ⟨s.size,s.k++[⟨a,x⟩],s.l,s.need⟩:=by
 obtain⟨j,rfl,h1,h2⟩:=EP hv
 refine⟨h.lo,h.hi,fun c hc=>?_,?_⟩
 ·rcases List.mem_append.1 hc with hc | hc
  ·exact h.places c hc
  ·rw [List.mem_singleton.1 hc];simp only;omega
 ·have hi:iY s.k (j:Int)=none:=by
   have:=rh (cs:=s.k) (a:=(j:Int))
   rw [hl] at this
   simpa using this
  rw [List.map_append,List.nodup_append]
  refine⟨h.nodup,by simp,fun p hp q hq=>?_⟩
  simp only [List.map_cons,List.map_nil,List.mem_singleton] at hq
  obtain⟨c,hc,rfl⟩:=List.mem_map.1 hp
  rw [hq]
  exact(i6 hi).2.2 c hc
theorem Jh.log {s:fa}{l:jl}(h:Jh s):Jh (s.log l):=⟨h.lo,h.hi,h.places,h.nodup⟩
def cY (b:Nat)(s:fa):bd:=od fun vf=>od fun vo=>od fun lp=>bt (gX (bf vf [vf]∧bf vo [vo]∧Jh s)) (bt (bt (bt (own b [vf,vo,ptr lp 0,i64 s.need]) (sl pP vf (o6 s.k s.size))) (sl bx vo (s.k.map (·.place)))) (ob eK lp s.l))
section
variable {w0:bo}{L M:List bd}{K:KV}{F:World→Prop}{C:bd→List bd}{b lp:Nat}{a x n:Int}{s:fa}{v vf vo:Value}
theorem dK:G w0 (ob cY b s::M) F=∀vf vo lp,(bf vf [vf]∧bf vo [vo]∧Jh s)→G w0 (own b [vf,vo,ptr lp 0,i64 s.need]::sl pP vf (o6 s.k s.size)::sl bx vo (s.k.map (·.place))::ob eK lp s.l::M) F:=by
 rw [em,cY]
 simp only [qm,ez,fI]
theorem iy {fs:List yi}{ps:List Int}(b lp:Nat)(s:fa) [dM [own b [vf,vo,ptr lp 0,i64 s.need],sl pP vf fs,sl bx vo ps,ob eK lp s.l] L M](e1:fs=o6 s.k s.size)(e2:ps=s.k.map (·.place))(h:bf vf [vf]∧bf vo [vo]∧Jh s)(H:G w0 (ob cY b s::M) F):G w0 L F :=
 G.pickAll (As:=[own b [vf,vo,ptr lp 0,i64 s.need],sl pP vf fs,sl bx vo ps,ob eK lp s.l]) (by subst e1;subst e2;rw [dK] at H;exact H vf vo lp h)
theorem Ub {w m:Int}{K':KV}{lp:Nat}(hv:bf vf [vf])(hK:∀b,G w0 (ob cY b ⟨(held w 32 256).toNat,[],⟨held m 0 96,⟨[],[]⟩,[]⟩,0⟩::L) (K' (ptr b 0))) :
  G w0 (sl pP vf (List.replicate (held w 32 256).toNat ⟨0,false⟩)::ob eK lp ⟨held m 0 96,⟨[],[]⟩,[]⟩::L) (dB (.agg #[vf,.slice none 0 0,ptr lp 0,i64 0]) K'):=by
 have hb:=eI (n:=w) (show (32:Int)≤256 by omega)
 refine G.nilsl bx ?_
 refine G.box (cs:=[vf,.slice none 0 0,ptr lp 0,i64 0]) fun b=>?_
 refine iy (vf:=vf) (vo:=.slice none 0 0) b lp ⟨(held w 32 256).toNat,[],⟨held m 0 96,⟨[],[]⟩,[]⟩,0⟩ NN.symm (show ([]:List Int)=[] from rfl) ⟨hv,bm,by show 32≤(held w 32 256).toNat;omega,by show (held w 32 256).toNat≤256;omega,by simp,by simp⟩ ?_
 exact hK b
theorem Ld {w m:Int}(hK:∀b,G w0 (ob cY b ⟨(held w 32 256).toNat,[],⟨held m 0 96,⟨[],[]⟩,[]⟩,0⟩::L) (K (ptr b 0))):G w0 L (CP Tryz.prog Yy [i64 w,i64 m] K):=by
 have hb:=eI (n:=w) (show (32:Int)≤256 by omega)
 have e3:(if (if (256:Int)<w then (256:Int) else w) > 32 then (if (256:Int)<w then (256:Int) else w) else 32)=((held w 32 256).toNat:Int):=by
  unfold held;split <;> split <;> split <;> (try split) <;> omega
 refine K7 ?_
 unfold EX
 refine G.drew ?_
 refine gr ?_
 rw [e3]
 refine⟨?_,?_⟩
 ·refine G.make pP ⟨0,false⟩ rfl (by simp only [maxLen];omega) (by omega) fun v hv=>?_
  refine gg ?_
  refine AJ fun lp=>?_
  refine gg ?_
  refine G.take1 (RE pP) v ?_
  refine Ub hv fun b=>?_
  refine gr ?_
  exact hK b
 ·refine AJ fun lp=>?_
  refine gg ?_
  refine G.make pP ⟨0,false⟩ rfl (by simp only [maxLen];omega) (by omega) fun v hv=>?_
  refine gg ?_
  refine Ub hv fun b=>?_
  refine gr ?_
  exact hK b
theorem Cd [i:au L cY b s C](hK:G w0 L (K (i64 s.size))):G w0 L (CP Tryz.prog WZ [ptr b 0] K):=by
 refine i.ro (fun M hK=>?_) hK
 rw [dK] at *
 intro vf vo lp h
 have hK:=hK vf vo lp h
 have hl:=G8 (k:=s.k) (n:=s.size)
 refine BO ?_
 unfold rY
 refine eC hl ?_
 exact hK
theorem uT [i:au L cY b s C](hK:G w0 L (K (i64 s.need))):G w0 L (CP Tryz.prog V9 [ptr b 0] K):=by
 refine i.ro (fun M hK=>?_) hK
 rw [dK] at *
 intro vf vo lp h
 have hK:=hK vf vo lp h
 refine BP ?_
 unfold r9
 refine gr ?_
 exact hK
theorem xb [i:au L cY b s C](hK:G w0 L (K (.bool (Kp s a)))):G w0 L (CP Tryz.prog VU [ptr b 0,i64 a] K):=by
 refine i.ro (fun M hK=>?_) hK
 rw [dK] at *
 intro vf vo lp h
 have hK:=hK vf vo lp h
 have hl:=G8 (k:=s.k) (n:=s.size)
 refine Di ?_
 unfold uM
 refine gu ?_
 refine eC hl ?_
 refine G.all (decide (a<s.size)) (fun _ K hK=>by refine eC hl ?_;exact hK) ?_
 exact hK
theorem HO [i:au L cY b s C](hK:G w0 (C (ob cY b (j4 s a x).1)) (K (i64 (j4 s a x).2))):G w0 L (CP Tryz.prog Y9 [ptr b 0,i64 a,u64 x] K):=by
 refine i.use (fun M hK=>?_) hK
 refine Ac ?_
 unfold qX
 refine xb (s:=s) ?_
 unfold j4 at hK
 cases hv:Kp s a with
 | false =>
  rw [hv] at hK
  refine gr ?_
  exact hK
 | true =>
  rw [hv,if_pos rfl] at hK
  rw [dK]
  rintro vf vo lp ⟨h1,h2,h3⟩
  refine gr ?_
  refine o7 (b:=lp) (s:=s.l) ?_
  refine iy b lp (s.log (NG s.l a x).1) rfl rfl ⟨h1,h2,h3.log⟩ ?_
  exact hK
theorem Kh [i:au L cY b s C](hf:s.l.r.f.length≤1000000)(hK:G w0 (C (ob cY b (s.log (s.l.free n)))) (K (.tuple #[]))):G w0 L (CP Tryz.prog Zg [ptr b 0,i64 n] K):=by
 refine i.use (fun M hK=>?_) hK
 refine BT ?_
 unfold rZ
 rw [dK]
 rintro vf vo lp ⟨h1,h2,h3⟩
 refine gr ?_
 refine vF (b:=lp) (s:=s.l) hf ?_
 refine iy b lp (s.log (s.l.free n)) rfl rfl ⟨h1,h2,h3.log⟩ ?_
 exact hK
theorem AB [i:au L cY b s C](hK:∀u,bf u [u]→G w0 (sl bk u s.l.cells::L) (K u)):G w0 L (CP Tryz.prog WJ [ptr b 0] K):=by
 refine i.roN (fun M hK=>?_) hK
 refine zH ?_
 unfold qS
 rw [dK]
 rintro vf vo lp ⟨h1,h2,h3⟩
 refine gr ?_
 refine uF (b:=lp) (s:=s.l) fun u hu=>?_
 refine gr ?_
 refine iy b lp s rfl rfl ⟨h1,h2,h3⟩ ?_
 exact(hK u hu).sub
theorem HW [i:au L cY b s C](hf:s.l.frees.length≤1000000)(hK:∀u,bf u [u]→G w0 (sl bx u s.l.frees::L) (K u)):G w0 L (CP Tryz.prog Yt [ptr b 0] K):=by
 refine i.roN (fun M hK=>?_) hK
 refine An ?_
 unfold qT
 rw [dK]
 rintro vf vo lp ⟨h1,h2,h3⟩
 refine gr ?_
 refine ur (b:=lp) (s:=s.l) hf fun u hu=>?_
 refine gr ?_
 refine iy b lp s rfl rfl ⟨h1,h2,h3⟩ ?_
 exact(hK u hu).sub
theorem Ku [i:au L cY b s C](hk:s.k.length≤1000000)(hK:G w0 (C (ob cY b (lL s a x).1)) (K (i64 (lL s a x).2))):G w0 L (CP Tryz.prog YV [ptr b 0,i64 a,u64 x] K):=by
 refine i.use (fun M hK=>?_) hK
 refine BG ?_
 unfold rV
 refine xb (s:=s) ?_
 unfold lL at hK
 cases hv:Kp s a with
 | false =>
  rw [hv] at hK
  refine gr ?_
  exact hK
 | true =>
  rw [hv,if_pos rfl] at hK
  obtain⟨j,rfl,hj1,hj2⟩:=EP hv
  rw [dK]
  rintro vf vo lp ⟨h1,h2,h3⟩
  have e:=yM (k:=s.k) hj2
  cases hl:dD s.k (j:Int) with
  | some y =>
   rw [show qb s.k (j:Int)=⟨y,true⟩ by unfold qb;rw [hl]] at e
   rw [hl] at hK
   dsimp only at hK
   refine gr ?_
   refine G.new fun q=>?_
   by_cases hy:y=x
   ·rw [if_pos hy,dK] at hK
    refine eC hy ?_
    exact(hK vf vo lp ⟨h1,h2,h3⟩).sub
   ·rw [if_neg hy,dK] at hK
    refine eC hy ?_
    exact(hK vf vo lp ⟨h1,h2,h3⟩).sub
  | none =>
   rw [show qb s.k (j:Int)=⟨0,false⟩ by unfold qb;rw [hl]] at e
   rw [hl] at hK
   dsimp only at hK
   have h4:=h3.know (x:=x) hv hl
   refine gr ?_
   refine G.new fun q=>?_
   refine gr ?_
   refine G.append1 (E:=bx) (a:=(j:Int)) rfl rfl (by decide) (by simp;omega) (by simp only [maxLen,List.length_map];omega) fun u hu=>?_
   refine gr ?_
   refine iy b lp ⟨s.size,s.k++[⟨j,x⟩],s.l,s.need⟩ (KP hj2 hl).symm (show s.k.map (·.place)++[(j:Int)]=(s.k++[(⟨j,x⟩:av)]).map (fun c:av=>c.place) by simp) ⟨h1,hu,h4⟩ ?_
   exact hK.sub
theorem kO [i:au L cY b s C](hK:G w0 (C (ob cY b (cr s a).1)) (K (.tuple #[u64 (cr s a).2.1,i64 (cr s a).2.2]))):G w0 L (CP Tryz.prog LT [ptr b 0,i64 a] K):=by
 refine i.use (fun M hK=>?_) hK
 refine Bm ?_
 unfold rO
 refine xb (s:=s) ?_
 unfold cr at hK
 cases hv:Kp s a with
 | false =>
  rw [hv] at hK
  refine gr ?_
  exact hK
 | true =>
  rw [hv,if_pos rfl] at hK
  obtain⟨j,rfl,hj1,hj2⟩:=EP hv
  rw [dK]
  rintro vf vo lp ⟨h1,h2,h3⟩
  have e:=yM (k:=s.k) hj2
  refine gr ?_
  refine xv (b:=lp) (s:=s.l) ?_
  unfold HY
  cases hr:oy (s.l.r::s.l.up) (j:Int) with
  | some y =>
   rw [hr] at hK
   dsimp only at hK
   rw [dK] at hK
   refine gr ?_
   exact hK vf vo lp ⟨h1,h2,h3⟩
  | none =>
   rw [hr] at hK
   dsimp only at hK
   cases hl:dD s.k (j:Int) with
   | some y =>
    rw [show qb s.k (j:Int)=⟨y,true⟩ by unfold qb;rw [hl]] at e
    rw [hl] at hK
    dsimp only at hK
    rw [dK] at hK
    refine gr ?_
    refine G.new fun q=>?_
    refine gr ?_
    exact(hK vf vo lp ⟨h1,h2,h3⟩).sub
   | none =>
    rw [show qb s.k (j:Int)=⟨0,false⟩ by unfold qb;rw [hl]] at e
    rw [hl] at hK
    dsimp only at hK
    rw [dK] at hK
    refine gr ?_
    refine G.new fun q=>?_
    refine gr ?_
    exact(hK vf vo lp ⟨h1,h2,h3.lo,h3.hi,h3.places,h3.nodup⟩).sub
theorem HF [i:au L cY b s C](hk:s.k.length≤1000000)(hK:∀u,bf u [u]→G w0 (sl bk u s.k::L) (K u)):G w0 L (CP Tryz.prog Yv [ptr b 0] K):=by
 refine i.roN (fun M hK=>?_) hK
 refine z4 ?_
 unfold rn
 rw [dK]
 rintro vf vo lp ⟨h1,h2,h3⟩
 have hll:(s.k.map (·.place)).length=s.k.length:=by simp
 refine eC hll ?_
 refine G.make2 (l:=0) (c:=s.k.length) bk ⟨0,0⟩ rfl (by omega) (by simp only [maxLen];omega) (by omega) fun u hu=>?_
 refine eC hll ?_
 refine G.loop2 (σ:=Value×Nat) (fun z=>z.1) (fun z=>i64 z.2) (fun z=>sl bk z.1 (s.k.take z.2)::own b [vf,vo,ptr lp 0,i64 s.need]::sl pP vf (o6 s.k s.size)::sl bx vo (s.k.map (·.place))::ob eK lp s.l::M) (fun z=>z.2≤s.k.length∧bf z.1 [z.1]) (fun z=>s.k.length-z.2) (u,0) rfl rfl rfl ⟨by simp,hu⟩ ?_
 rintro⟨u,j⟩ ⟨hj,hu⟩ J hJ
 simp only at hj hu hJ ⊢
 refine gr ?_
 refine G.cond (fun h=>?_) (fun h=>?_)
 ·have hj2:j<s.k.length:=by simpa using h
  have e1:fe (s.k.map (·.place)) j s.k[j].place:=⟨by simp [hj2]⟩
  have hp:=h3.places _ (List.getElem_mem hj2)
  obtain⟨m,hm⟩:=Int.eq_ofNat_of_zero_le (show 0≤s.k[j].place by omega)
  have ix:iQ s.k[j].place m:=⟨hm⟩
  have e2:=yM (k:=s.k) (n:=s.size) (j:=m) (by omega)
  have hlk:=Pk h3.nodup hj2
  rw [show qb s.k (m:Int)=⟨s.k[j].word,true⟩ by unfold qb;rw [←hm,hlk]] at e2
  refine gr ?_
  refine G.append1 (E:=bk) (a:=s.k[j]) rfl rfl (by decide) (by simp;omega) (by simp only [maxLen,List.length_take];omega) fun u2 hu2=>?_
  refine gr ?_
  rw [dx (by omega)]
  have h:=hJ (u2,j+1) ⟨hj2,hu2⟩ (by simp;omega)
  have ek:s.k.take (j+1)=s.k.take j++[s.k[j]]:=by rw [List.take_add_one,List.getElem?_eq_getElem hj2];rfl
  simp only [ek] at h
  exact h.sub
 ·have ht:s.k.take j=s.k:=List.take_of_length_le (by simpa using h)
  rw [ht]
  refine iy b lp s rfl rfl ⟨h1,h2,h3⟩ ?_
  exact(hK u hu).sub
theorem qW {l:List av}[i:au L cY b s C][r:∀A,Rd w0 (C A) v bk 2 l](hl:l.length≤1000000)(hK:G w0 (C (ob cY b (fJ s l).1)) (K (i64 (fJ s l).2))):G w0 L (CP Tryz.prog VR [ptr b 0,v] K):=by
 refine i.useM (fun M hM hK=>?_) hK
 have r':=Rd.frame hM r
 refine BV ?_
 unfold rP
 refine gr ?_
 refine G.loop1 (fun k:Nat=>i64 k) (fun _=>ob cY b s::M) (fun k=>k≤l.length∧(l.take k).all (fun c=>Kp s c.place)=true) (fun k=>l.length-k) 0 rfl rfl ⟨by simp,by simp⟩ ?_
 rintro k ⟨hk,hp⟩ J hJ
 refine gr ?_
 refine G.cond (fun h=>?_) (fun h=>?_)
 ·have hk2:k<l.length:=by simpa using h
  have e:=cw hk2
  refine gr ?_
  refine G.new fun q=>?_
  refine gr ?_
  refine xb (s:=s) ?_
  cases hv:Kp s l[k].place with
  | false =>
   have h4:fJ s l=(s,2):=by
    unfold fJ
    rw [if_neg]
    intro hall
    rw [List.all_eq_true] at hall
    rw [hall _ (List.getElem_mem hk2)] at hv
    cases hv
   rw [h4] at hK
   refine gr ?_
   exact hK.sub
  | true =>
   refine gr ?_
   rw [dx (by omega)]
   refine(hJ (k+1) ⟨hk2,?_⟩ (by omega)).sub
   rw [List.take_add_one,List.getElem?_eq_getElem hk2,List.all_append,hp]
   simp [hv]
 ·have ht:l.take k=l:=List.take_of_length_le (by simpa using h)
  rw [ht] at hp
  unfold fJ at hK
  rw [if_pos hp] at hK
  rw [dK]
  rintro vf vo lp ⟨h1,h2,h3⟩
  refine gr ?_
  refine wE (b:=lp) (s:=s.l) (l:=l) hl ?_
  refine iy b lp (s.log (lG s.l l).1) rfl rfl ⟨h1,h2,h3.log⟩ ?_
  exact hK
end
end Go.Proofs.YtoealglbimbbmaaGreatDoor.S
