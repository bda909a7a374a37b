import Derived.Test.YtoealglbimbbmaaGreatDoorWrites
import Derived.Test.YtoealglbimbbmaaGreatDoorBack
import Derived.Test.YtoealglbimbbmaaGreatDoorSBack
namespace Go.Proofs.YtoealglbimbbmaaGreatDoor.S
open Go Go.Proofs
set_option linter.unusedVariables false
set_option linter.unusedSimpArgs false
structure Lv where
 c:List aw
 f:List Int
structure jS where
 most:Int
 r:Lv
 up:List Lv
def pU:List Lv→Int→Option Int
 | [],_=>none
 | r::l,a=>match eI r.c a with | some x=>some x | none=>pU l a
def dW (l:List Lv):Nat:=(l.map (·.c.length)).sum
def gq (l:List Lv):List Int:=l.flatMap (·.f)
structure xI (s:jS):Prop where
 lo:0≤s.most
 hi:s.most≤96
 len:(dW (s.r::s.up):Int)≤s.most
 six:s.up.length<6
 ok:∀r∈s.r::s.up,Jm r.c
abbrev jS.room (s:jS):Int:=s.most-(dW (s.r::s.up):Int)
def kY (s:jS)(a:Int):Int:=if yU a then (if (iT s.r.c a).isSome then 0 else if s.room=0 then 5 else 0) else 2
def jS.put (s:jS)(a x:Int):jS:=⟨s.most,⟨iD s.r.c a x,s.r.f⟩,s.up⟩
def iZ:jS→List aw→jS×Int
 | s,[]=>(s,0)
 | s,c::l=>if kY s c.place=0 then iZ (s.put c.place c.word) l else (s,kY s c.place)
def o8 (s:jS)(l:List aw):jS×Int:=if (iZ s l).2=0 then ((iZ s l).1,0) else (s,(iZ s l).2)
def Xb (s:jS):jS×Int:=match s.up with
 | []=>(s,10)
 | q::up=>(⟨s.most,⟨iG q.c s.r.c,q.f++s.r.f⟩,up⟩,0)
def W7 (s:jS):jS×Int:=match s.up with
 | []=>(s,10)
 | q::up=>(⟨s.most,q,up⟩,0)
def W8 (s:jS):jS×Int:=if 6≤s.up.length+1 then (s,9) else (⟨s.most,⟨[],[]⟩,s.r::s.up⟩,0)
def jS.free (s:jS)(n:Int):jS:=⟨s.most,⟨s.r.c,s.r.f++[n]⟩,s.up⟩
def jS.cells (s:jS):List aw:=s.up.foldl (fun out q=>iG q.c out) s.r.c
def jS.frees (s:jS):List Int:=gq (s.up.reverse++[s.r])
theorem eO {r:Lv}{l:List Lv}:dW (r::l)=r.c.length+dW l:=by simp [dW]
theorem nh {l l':List Lv}:dW (l++l')=dW l+dW l':=by simp [dW]
theorem FQ {l:List Lv}:dW l.reverse=dW l:=by
 induction l with
 | nil=>rfl
 | cons r l ih=>rw [List.reverse_cons,nh,ih,eO,eO];simp [dW];omega
theorem rY {l l':List Lv}:gq (l++l')=gq l++gq l':=by simp [gq]
theorem Qr {s:jS}{a:Int}(h:kY s a=0):yU a=true∧((iT s.r.c a).isSome=true∨s.room≠0):=by
 unfold kY at h
 split at h
 ·rename_i ha
  refine⟨ha,?_⟩
  split at h
  ·rename_i hs;exact .inl hs
  ·split at h
   ·cases h
   ·rename_i hr;exact .inr hr
 ·cases h
theorem xI.room {s:jS}(h:xI s):0≤s.room:=by have:=h.len;unfold jS.room;omega
theorem xI.put {s:jS}{a x:Int}(h:xI s)(he:kY s a=0):xI (s.put a x):=by
 obtain⟨ha,hr⟩:=Qr he
 have hl:=h.len
 refine⟨h.lo,h.hi,?_,h.six,fun r hr'=>?_⟩
 ·simp only [jS.put,eO,ww] at hl ⊢
  rcases hr with hr | hr
  ·rw [if_pos hr];exact hl
  ·have:s.room=s.most-((s.r.c.length+dW s.up:Nat):Int):=by unfold jS.room;rw [eO]
   split <;> omega
 ·rcases List.mem_cons.1 hr' with e | hr'
  ·rw [e];exact(h.ok _ (by simp)).put ha
  ·exact h.ok _ (List.mem_cons_of_mem _ hr')
theorem xI.puts:∀{l:List aw}{s:jS},xI s→xI (iZ s l).1
 | [],s,h=>h
 | c::l,s,h=>by
  unfold iZ
  split
  ·rename_i h0;exact xI.puts (h.put h0)
  ·exact h
theorem xI.take {s:jS}{l:List aw}(h:xI s):xI (o8 s l).1:=by
 unfold o8
 split
 ·exact h.puts
 ·exact h
theorem xI.new {n:Int}:xI ⟨held n 0 96,⟨[],[]⟩,[]⟩:=by
 have hb:=eQ (n:=n) (show (0:Int)≤96 by omega)
 refine⟨hb.1,hb.2,by simpa [dW] using hb.1,by simp,fun r hr=>?_⟩
 have:r=⟨[],[]⟩:=by simpa using hr
 rw [this];exact .nil
theorem xI.kept {s:jS}{q:Lv}{up:List Lv}(h:xI s)(e:s.up=q::up):xI ⟨s.most,⟨iG q.c s.r.c,q.f++s.r.f⟩,up⟩:=by
 have hl:=h.len
 have h6:=h.six
 have ho:=h.ok
 rw [e] at hl h6 ho
 have hp:=Ct (cs:=q.c) (l:=s.r.c)
 refine⟨h.lo,h.hi,?_,by simp at h6 ⊢;omega,fun r hr=>?_⟩
 ·simp only [eO] at hl ⊢
  omega
 ·rcases List.mem_cons.1 hr with e2 | hr
  ·rw [e2];exact(ho q (by simp)).puts (ho s.r (by simp)).places
  ·exact ho _ (by simp [hr])
theorem xI.free {s:jS}{n:Int}(h:xI s):xI (s.free n):=by
 refine⟨h.lo,h.hi,?_,h.six,fun r hr=>?_⟩
 ·have:=h.len
  simpa [jS.free,eO] using this
 ·rcases List.mem_cons.1 hr with e | hr
  ·rw [e];exact h.ok s.r (by simp)
  ·exact h.ok _ (List.mem_cons_of_mem _ hr)
theorem Gq {a:Int}:∀{l:List Lv},(∀r∈l,eI r.c a=none)→pU l a=none
 | [],_=>rfl
 | r::l,h=>by unfold pU;rw [h r (by simp)];exact Gq fun q hq=>h q (by simp [hq])
theorem I0 {a x:Int}{r:Lv}{l':List Lv}(hx:eI r.c a=some x):∀{l:List Lv},(∀r∈l,eI r.c a=none)→pU (l++r::l') a=some x
 | [],_=>by show pU (r::l') a=some x;unfold pU;rw [hx]
 | q::l,h=>by show pU (q::(l++r::l')) a=some x;unfold pU;rw [h q (by simp)];exact I0 hx fun q hq=>h q (by simp [hq])
def Ey (out:List aw)(r:Lv):List aw:=(lK 96 (lK 96 [] r.c).1 out).1
theorem TN {out:List aw}{r:Lv}(ho:Jm r.c)(hout:∀c∈out,yU c.place=true)(hl:r.c.length+out.length≤96):Ey out r=iG r.c out:=by
 unfold Ey
 rw [AE (most:=96) (cs:=[]) ho.places (by simp;omega),ho.self,AE hout (by show (r.c.length+out.length:Int)≤96;omega)]
theorem Ji.new {n:Int}:Ji (held n 0 96) []:=by
 have hb:=eQ (n:=n) (show (0:Int)≤96 by omega)
 exact⟨hb.1,hb.2,by simpa using hb.1,.nil⟩
theorem OG {out:List aw}{r:Lv}:(Ey out r).length≤96:=by
 have h:Ji 96 (Ey out r):=(Ji.take (Ji.take (Ji.new (n:=96))))
 have:=h.len
 omega
theorem Lw:∀{l:List Lv}{out:List aw},(∀r∈l,Jm r.c)→(∀c∈out,yU c.place=true)→out.length+dW l≤96→l.foldl Ey out=l.foldl (fun out q=>iG q.c out) out
 | [],out,_,_,_=>rfl
 | r::l,out,h,ho,hl=>by
  rw [eO] at hl
  have hp:=Ct (cs:=r.c) (l:=out)
  rw [List.foldl_cons,List.foldl_cons,TN (h r (by simp)) ho (by omega)]
  exact Lw (fun q hq=>h q (by simp [hq])) ((h r (by simp)).puts ho).places (by omega)
theorem Lm {s:jS}(h:xI s):(s.r::s.up).foldl Ey []=s.cells:=by
 have hl:=h.len
 have hi:=h.hi
 have ho:=h.ok s.r (by simp)
 rw [Lw h.ok (by simp) (by simp;omega),List.foldl_cons]
 rfl
theorem Fk {s:jS}(h:xI s):s.cells.length≤96:=by
 rw [←Lm h]
 generalize s.r::s.up=l
 have:∀(l:List Lv) (out:List aw),out.length≤96→(l.foldl Ey out).length≤96:=fun l=>by
  induction l with
  | nil=>exact fun out h=>h
  | cons r l ih=>exact fun out _=>ih _ OG
 exact this l [] (by simp)
def ga (b:Nat)(s:Nat×Lv):ax:=jX fun v=>bu (fS (av v [v])) (bu (bu (own b [ptr s.1 0,v]) (ob fL s.1 (96,s.2.c))) (sl cd v s.2.f))
def tv (b:Nat)(l:List (Nat×Nat×Lv)):ax:=dh (l.map fun x=>ob ga x.1 x.2)
abbrev kn (l:List (Nat×Nat×Lv)):List Nat:=l.map (·.1)
abbrev Bj (l:List (Nat×Nat×Lv)):List Lv:=l.map (·.2.2)
def eD (b:Nat)(s:jS):ax:=jX fun v=>jX fun(l:List (Nat×Nat×Lv))=>bu (fS (av v [v]∧xI s∧Bj l=s.up.reverse++[s.r])) (bu (bu (own b [i64 s.most,v]) (sl iJ v (kn l))) (ob tv b l))
section
variable {w0:bg}{L M:List ax}{K:KV}{F:World→Prop}{C:ax→List ax}{b p c k:Nat}{a x n:Int}{r:Lv}{s:jS}{l us:List (Nat×Nat×Lv)}{v:Value}
theorem DU {l l':List (Nat×Nat×Lv)}:kn (l++l')=kn l++kn l':=List.map_append
theorem GK {l l':List (Nat×Nat×Lv)}:Bj (l++l')=Bj l++Bj l':=List.map_append
theorem fQ:G w0 (ob ga p (c,r)::M) F=∀v,av v [v]→G w0 (own p [ptr c 0,v]::ob fL c (96,r.c)::sl cd v r.f::M) F:=by
 rw [dO,ga]
 simp only [lT,dP,eS]
theorem eM {v:Value}(p c:Nat)(r:Lv) [cx [own p [ptr c 0,v],ob fL c (96,r.c),sl cd v r.f] L M](hv:av v [v])(H:G w0 (ob ga p (c,r)::M) F):G w0 L F :=
 G.pickAll (As:=[own p [ptr c 0,v],ob fL c (96,r.c),sl cd v r.f]) (by rw [fQ] at H;exact H v hv)
theorem Nb {α:Type}(f:α→ax):∀{l:List α}{k:Nat}{x:α},l[k]? = some x→dh (l.map f)=dh (f x::(l.eraseIdx k).map f)
 | [],k,x,h=>by simp at h
 | y::l,0,x,h=>by simp at h;subst h;rfl
 | y::l,k+1,x,h=>by
  have:=Nb f (l:=l) (k:=k) (x:=x) (by simpa using h)
  show bu (f y) (dh (l.map f))=bu (f x) (bu (f y) (dh ((l.eraseIdx k).map f)))
  rw [this,iq];rfl
theorem Dj {p c:Nat}{r:Lv}(h:l[k]? = some (p,c,r)):G w0 (ob tv b l::M) F=G w0 (ob ga p (c,r)::ob tv b (l.eraseIdx k)::M) F:=da (by
 show bu (ob tv b l) (dh M)=bu (ob ga p (c,r)) (bu (ob tv b (l.eraseIdx k)) (dh M))
 rw [dO tv,dO tv,tv,Nb _ h,←Fd];rfl)
theorem CN:G w0 (ob tv b (us++[(p,c,r)])::M) F=G w0 (ob ga p (c,r)::ob tv b us::M) F:=by
 rw [Dj (k:=us.length) (p:=p) (c:=c) (r:=r) (by simp)]
 congr 3
 simp [List.eraseIdx_append_of_length_le]
theorem R8 (b:Nat)(us:List (Nat×Nat×Lv))(p c:Nat)(r:Lv) [cx [ob ga p (c,r),ob tv b us] L M](H:G w0 (ob tv b (us++[(p,c,r)])::M) F):G w0 L F :=
 G.pickAll (As:=[ob ga p (c,r),ob tv b us]) (by rw [CN] at H;exact H)
theorem vZ {p c:Nat}{r:Lv}(h:l[k]? = some (p,c,r)) [cx [ob ga p (c,r),ob tv b (l.eraseIdx k)] L M](H:G w0 (ob tv b l::M) F):G w0 L F :=
 G.pickAll (As:=[ob ga p (c,r),ob tv b (l.eraseIdx k)]) (by rw [Dj h] at H;exact H)
theorem tG {As Bs:List ax}:dh (As++Bs)=bu (dh As) (dh Bs):=by
 induction As with
 | nil=>exact(qy _).symm
 | cons A As ih=>show bu A (dh (As++Bs))=bu (bu A (dh As)) (dh Bs);rw [ih,Fd]
theorem Tr {As:List ax}(H:G w0 (As++ob tv b []::M) F):G w0 (As++M) F:=by
 rw [da (L':=As++M)] at H
 ·exact H
 ·rw [tG,tG]
  show bu _ (bu (ob tv b []) _)=_
  rw [dO tv]
  show bu _ (bu NB _)=_
  rw [qy]
theorem fK:G w0 (ob eD b s::M) F=∀v l,(av v [v]∧xI s∧Bj l=s.up.reverse++[s.r])→G w0 (own b [i64 s.most,v]::sl iJ v (kn l)::ob tv b l::M) F:=by
 rw [dO,eD]
 simp only [lT,dP,eS]
theorem mO:G w0 (ob eD b s::M) F=∀v p c us,(av v [v]∧xI s∧Bj us=s.up.reverse)→G w0 (own b [i64 s.most,v]::sl iJ v (kn us++[p])::ob ga p (c,s.r)::ob tv b us::M) F:=by
 rw [fK]
 have e:∀v us p c,G w0 (own b [i64 s.most,v]::sl iJ v (kn (us++[(p,c,s.r)]))::ob tv b (us++[(p,c,s.r)])::M) F=G w0 (own b [i64 s.most,v]::sl iJ v (kn us++[p])::ob ga p (c,s.r)::ob tv b us::M) F:=fun v us p c=>by
  rw [GC,CN,DU]
  apply da
  show bu _ (bu _ (bu _ (bu _ _)))=bu _ (bu _ (bu _ (bu _ _)))
  rw [iq (ob tv b us),iq (ob tv b us),iq (ob ga p (c,s.r)),iq (ob ga p (c,s.r))]
  rfl
 apply propext
 constructor
 ·rintro H v p c us ⟨h1,h2,h3⟩
  rw [←e]
  exact H v (us++[(p,c,s.r)]) ⟨h1,h2,by rw [GK,h3];rfl⟩
 ·rintro H v l ⟨h1,h2,h3⟩
  obtain⟨us,y,hl,h4,h5⟩:=List.map_eq_append_iff.1 h3
  obtain⟨z,zs,rfl,h6,h7⟩:=List.map_eq_cons_iff.1 h5
  have:zs=[]:=by simpa using h7
  subst this
  obtain⟨p,c,q⟩:=z
  simp only at h6
  subst h6
  subst hl
  rw [e]
  exact H v p c us ⟨h1,h2,h4⟩
theorem iL {v:Value}{xs:List Nat}(b:Nat)(s:jS)(us:List (Nat×Nat×Lv))(p c:Nat) [cx [own b [i64 s.most,v],sl iJ v xs,ob ga p (c,s.r),ob tv b us] L M](hx:xs=kn us++[p])(h:av v [v]∧xI s∧Bj us=s.up.reverse)(H:G w0 (ob eD b s::M) F):G w0 L F :=
 G.pickAll (As:=[own b [i64 s.most,v],sl iJ v xs,ob ga p (c,s.r),ob tv b us]) (by rw [mO] at H;subst hx;exact H v p c us h)
theorem G.okL [i:al L eD b s C](h:xI s→G w0 L F):G w0 L F:=by
 by_cases hw:xI s
 ·exact h hw
 ·refine i.ro (F':=fun _=>True) (fun M _=>?_) (fun _ _=>trivial)
  rw [fK]
  exact fun v l hv=>absurd hv.2.1 hw
theorem JA {up:List Lv}(h:Bj us=up.reverse):us.length=up.length:=by
 have:=congrArg List.length h
 simpa using this
theorem Hw (hK:∀p c,G w0 (ob ga p (c,⟨[],[]⟩)::L) (K (ptr p 0))):G w0 L (CP Tryz.prog abN [] K):=by
 refine Gg ?_
 unfold wF
 refine tO fun c=>?_
 rw [show held 96 0 96=96 from rfl]
 refine gr ?_
 refine G.nilsl cd ?_
 refine G.box fun p=>?_
 refine eM (v:=.slice none 0 0) p c ⟨[],[]⟩ bf ?_
 exact hK p c
theorem BP {n:Int}(hK:∀b,G w0 (ob eD b ⟨held n 0 96,⟨[],[]⟩,[]⟩::L) (K (ptr b 0))):G w0 L (CP Tryz.prog Zd [i64 n] K):=by
 refine Kt ?_
 unfold Ca
 refine gr ?_
 have e3:(if (if (96:Int)<n then (96:Int) else n) > 0 then (if (96:Int)<n then (96:Int) else n) else 0)=held n 0 96:=by
  unfold held;split <;> split <;> split <;> (try split) <;> omega
 rw [e3]
 refine Hw fun p c=>?_
 refine G.build iJ [p] rfl (by simp) rfl fun v hv=>?_
 refine gr ?_
 refine G.box fun b=>?_
 have h:=hK b
 rw [mO] at h
 have h2:=h v p c [] ⟨hv,xI.new,rfl⟩
 exact Tr (b:=b) (As:=[own b [i64 (held n 0 96),v],sl iJ v [p],ob ga p (c,⟨[],[]⟩)]) h2
theorem TI (hl:us.length≤1000000)(hK:G w0 (own b [i64 n,v]::sl iJ v (kn us++[p])::M) (K (ptr p 0))):G w0 (own b [i64 n,v]::sl iJ v (kn us++[p])::M) (CP Tryz.prog XR [ptr b 0] K):=by
 refine Ax ?_
 unfold qT
 have e:eA (kn us++[p]) us.length p:=⟨by simp⟩
 refine G.drew ?_
 refine gr ?_
 have w1:IntKind.wrap .i64 (((kn us++[p]).length:Nat)-1:Int)=(us.length:Int):=by
  simp only [List.length_append,List.length_map,List.length_singleton]
  rw [ik (by omega) (by omega)];omega
 rw [w1]
 refine gr ?_
 exact hK
theorem vT [i:al L eD b s C](hf:s.r.f.length≤1000000)(hK:G w0 (C (ob eD b (s.free n))) (K (.tuple #[]))):G w0 L (CP Tryz.prog ab7 [ptr b 0,i64 n] K):=by
 refine i.use (fun M hK=>?_) hK
 rw [mO]
 rintro v p c us ⟨hv,hs,hu⟩
 have hul:=JA hu
 have h6:=hs.six
 refine wJ ?_
 unfold nQ
 refine TI (by omega) ?_
 refine G.take1 ga p ?_
 rw [fQ]
 intro v2 hv2
 refine gr ?_
 refine G.append1 (E:=cd) rfl rfl (by decide) (by omega) (by simp only [maxLen];omega) fun u hu2=>?_
 refine gr ?_
 refine eM p c ⟨s.r.c,s.r.f++[n]⟩ hu2 ?_
 refine iL b ⟨s.most,⟨s.r.c,s.r.f++[n]⟩,s.up⟩ us p c rfl ⟨hv,hs.free,hu⟩ ?_
 exact hK
end
end Go.Proofs.YtoealglbimbbmaaGreatDoor.S
namespace Go.Proofs.YtoealglbimbbmaaGreatDoor.S
open Go Go.Proofs
set_option linter.unusedVariables false
set_option linter.unusedSimpArgs false
theorem Me {l:List Lv}{k:Nat}(hk:k<l.length):dW (l.take (k+1))=dW (l.take k)+l[k].c.length:=by
 rw [List.take_add_one,List.getElem?_eq_getElem hk,nh]
 simp [dW]
theorem xy {l:List Lv}{k:Nat}:dW (l.take k)≤dW l:=by
 have:dW (l.take k++l.drop k)=dW (l.take k)+dW (l.drop k):=nh
 rw [List.take_append_drop] at this
 omega
theorem Ed {l:List Lv}{k:Nat}(hk:k<l.length):gq (l.take (k+1))=gq (l.take k)++l[k].f:=by
 rw [List.take_add_one,List.getElem?_eq_getElem hk,rY]
 simp [gq]
theorem Hk {l:List Lv}{k:Nat}(hk:k<l.length):(gq (l.take k)).length+l[k].f.length≤(gq l).length:=by
 have:gq (l.take (k+1)++l.drop (k+1))=gq (l.take (k+1))++gq (l.drop (k+1)):=rY
 rw [List.take_append_drop,Ed hk] at this
 rw [this]
 simp
section
variable {w0:bg}{L M:List ax}{K:KV}{F:World→Prop}{C:ax→List ax}{b p c k:Nat}{a x n:Int}{r:Lv}{s:jS}{l us:List (Nat×Nat×Lv)}{v:Value}{xs:List Nat}
theorem S6 {k:Nat}(hk:k<l.length):∃p c,l[k]? = some (p,c,l[k].2.2)∧eA (kn l) k p∧∃h:k<(Bj l).length,(Bj l)[k]=l[k].2.2 :=
 ⟨l[k].1,l[k].2.1,List.getElem?_eq_getElem hk,⟨by simp [hk]⟩,by simpa using hk,by simp⟩
theorem LZ (hx:xs=kn l)(hl:l.length≤1000000)(h0:0≤n)(h1:n≤96)(ht:dW (Bj l)≤96)(hK:G w0 (own b [i64 n,v]::sl iJ v xs::ob tv b l::M) (K (i64 (n-dW (Bj l))))) :
  G w0 (own b [i64 n,v]::sl iJ v xs::ob tv b l::M) (CP Tryz.prog ab3 [ptr b 0] K):=by
 subst hx
 refine w8 ?_
 unfold ol
 have hll:(kn l).length=l.length:=by simp
 refine dN hll ?_
 refine G.loop2 (fun k:Nat=>i64 (n-dW ((Bj l).take k))) (fun k:Nat=>i64 k) (fun _=>own b [i64 n,v]::sl iJ v (kn l)::ob tv b l::M) (fun k=>k≤l.length) (fun k=>l.length-k) 0 (by simp [dW]) rfl rfl (by simp) ?_
 intro k hk J hJ
 refine gr ?_
 refine G.cond (fun h=>?_) (fun h=>?_)
 ·have hk2:k<l.length:=by simpa using h
  obtain⟨p,c,hx,e,hk3,e2⟩:=S6 hk2
  have t1:=Me hk3
  have t2:=xy (l:=Bj l) (k:=k)
  have t3:=xy (l:=Bj l) (k:=k+1)
  rw [e2] at t1
  generalize l[k].2.2=r at hx t1
  refine gr ?_
  refine G.take1 tv b ?_
  rw [Dj hx,fQ]
  intro v2 hv2
  refine gr ?_
  refine yO (cs:=r.c) (most:=96) ?_
  refine gr ?_
  rw [dt (by omega),ik (by omega) (by omega)]
  refine eM p c r hv2 ?_
  refine vZ (b:=b) hx ?_
  have h:=hJ (k+1) hk2 (by omega)
  rw [t1] at h
  rw [show n-(dW (List.take k (Bj l)):Int)-r.c.length=n-((dW (List.take k (Bj l))+r.c.length:Nat):Int) by omega]
  exact h.sub
 ·have:(Bj l).take k=Bj l:=List.take_of_length_le (by simpa using h)
  rw [this]
  exact hK
theorem xI.total {s:jS}(hs:xI s)(hl:Bj l=s.up.reverse++[s.r]):dW (Bj l)=dW (s.r::s.up):=by
 rw [hl,nh,FQ,eO,eO];simp [dW];omega
theorem Sv {s:jS}(hl:Bj l=s.up.reverse++[s.r]):l.length=s.up.length+1:=by
 have:=congrArg List.length hl
 simpa using this
theorem o6 [i:al L eD b s C](hK:G w0 (C (ob eD b (if kY s a=0 then s.put a x else s))) (K (i64 (kY s a)))):G w0 L (CP Tryz.prog Zs [ptr b 0,i64 a,u64 x] K):=by
 refine i.use (fun M hK=>?_) hK
 refine yV ?_
 unfold oR
 refine gu ?_
 refine gr ?_
 refine G.cond (fun h=>?_) (fun h=>?_)
 ·have h0:kY s a=2:=by unfold kY;rw [if_neg];rw [Bv];simp at h;omega
  rw [h0] at hK
  exact hK
 ·have ha:yU a=true:=by rw [Bv];simp at h;omega
  rw [mO]
  rintro v p c us ⟨hv,hs,hu⟩
  have hul:=JA hu
  have h6:=hs.six
  have b1:=hs.lo
  have b2:=hs.hi
  have b3:=hs.len
  refine TI (by omega) ?_
  refine G.take1 ga p ?_
  rw [fQ]
  intro v2 hv2
  refine gr ?_
  refine pj (cs:=s.r.c) (most:=96) ?_
  have hsome:=xr (cs:=s.r.c) (a:=a)
  cases hi:eI s.r.c a with
  | some y =>
   rw [hi] at hsome
   have h0:kY s a=0:=by unfold kY;rw [if_pos ha,hsome];rfl
   have h1:lS 96 s.r.c a=0:=by unfold lS;rw [if_pos ha,hsome];rfl
   rw [h0,if_pos rfl] at hK
   simp only [F6,hi]
   refine gg ?_
   refine jF (cs:=s.r.c) (most:=96) ?_
   rw [h1,if_pos rfl]
   refine eM p c ⟨iD s.r.c a x,s.r.f⟩ hv2 ?_
   refine iL b ⟨s.most,⟨iD s.r.c a x,s.r.f⟩,s.up⟩ us p c rfl ⟨hv,hs.put h0,hu⟩ ?_
   exact hK
  | none =>
   rw [hi] at hsome
   have hsome:(iT s.r.c a).isSome=false:=by simpa using hsome
   simp only [F6,hi]
   refine gg ?_
   refine eM p c s.r hv2 ?_
   refine R8 b us p c s.r ?_
   refine G.take1 (TH iJ) v ?_
   refine G.take1 gI b ?_
   have hl:Bj (us++[(p,c,s.r)])=s.up.reverse++[s.r]:=by rw [GK,hu];rfl
   have ht:=hs.total hl
   refine LZ (l:=us++[(p,c,s.r)]) (by rw [DU];rfl) (by simp;omega) (by omega) (by omega) (by omega) ?_
   rw [ht]
   by_cases hr:s.room=0
   ·have h0:kY s a=5:=by unfold kY;rw [if_pos ha,hsome];simp [hr]
    have hr2:s.most-(dW (s.r::s.up):Int)=0:=hr
    rw [h0,if_neg (by decide)] at hK
    refine gf hr2 ?_
    refine G.take1 tv b ?_
    rw [CN]
    refine iL b s us p c rfl ⟨hv,hs,hu⟩ ?_
    exact hK
   ·have h0:kY s a=0:=by unfold kY;rw [if_pos ha,hsome];simp [hr]
    have hr2:¬s.most-(dW (s.r::s.up):Int)=0:=hr
    have hlen:s.r.c.length<96:=by rw [eO] at b3 hr2;omega
    have h1:lS 96 s.r.c a=0:=by unfold lS;rw [if_pos ha,hsome,if_neg (by decide),if_neg (by omega)]
    rw [h0,if_pos rfl] at hK
    refine gf hr2 ?_
    refine G.take1 tv b ?_
    rw [CN,fQ]
    intro v3 hv3
    refine jF (cs:=s.r.c) (most:=96) ?_
    rw [h1,if_pos rfl]
    refine eM p c ⟨iD s.r.c a x,s.r.f⟩ hv3 ?_
    refine iL b ⟨s.most,⟨iD s.r.c a x,s.r.f⟩,s.up⟩ us p c rfl ⟨hv,hs.put h0,hu⟩ ?_
    exact hK
theorem uW [i:al L eD b s C](hf:s.frees.length≤1000000)(hK:∀u,av u [u]→G w0 (sl cd u s.frees::L) (K u)):G w0 L (CP Tryz.prog abB [ptr b 0] K):=by
 refine i.roN (fun M hK=>?_) hK
 rw [fK]
 rintro v l ⟨hv,hs,hl⟩
 have hll:(kn l).length=l.length:=by simp
 have h4:=hs.six
 have h5:=Sv hl
 unfold jS.frees at hf hK
 rw [←hl] at hf hK
 refine vC ?_
 unfold mz
 refine dN hll ?_
 refine G.nilsl cd ?_
 refine G.loop2 (σ:=Value×Nat) (fun z=>z.1) (fun z=>i64 z.2) (fun z=>sl cd z.1 (gq ((Bj l).take z.2))::own b [i64 s.most,v]::sl iJ v (kn l)::ob tv b l::M) (fun z=>z.2≤l.length∧av z.1 [z.1]) (fun z=>l.length-z.2) (_,0) rfl rfl (by simp [gq]) ⟨by simp,bf⟩ ?_
 rintro⟨u,k⟩ ⟨hk,hu⟩ J hJ
 simp only at hk hu hJ ⊢
 refine gr ?_
 refine G.cond (fun h=>?_) (fun h=>?_)
 ·have hk2:k<l.length:=by simpa using h
  obtain⟨p,c,hx,e,hk3,e2⟩:=S6 hk2
  have t1:=Ed hk3
  have t2:=Hk hk3
  rw [e2] at t1 t2
  generalize l[k].2.2=r at hx t1 t2
  refine gr ?_
  refine G.take1 tv b ?_
  rw [Dj hx,fQ]
  intro v2 hv2
  refine gr ?_
  refine G.append (xs:=gq (List.take k (Bj l))) (ys:=r.f) (by omega) (by simp only [maxLen];omega) fun u2 hu2=>?_
  refine gr ?_
  rw [dt (by omega)]
  refine eM p c r hv2 ?_
  refine vZ (b:=b) hx ?_
  have h:=hJ (u2,k+1) ⟨hk2,hu2⟩ (by simp;omega)
  simp only [t1] at h
  exact h.sub
 ·have:(Bj l).take k=Bj l:=List.take_of_length_le (by simpa using h)
  rw [this]
  have hK:=hK u hu
  rw [eN,fK] at hK
  exact(hK v l ⟨hv,hs,hl⟩).sub
def AY (l:List (Nat×Nat×Lv))(k:Nat):Lv:=match l[k]? with | some x=>x.2.2 | none=>⟨[],[]⟩
theorem O3 {k:Nat}{p c:Nat}{r:Lv}(h:l[k]? = some (p,c,r)):AY l k=r:=by unfold AY;rw [h]
theorem Jd:(jY (kn l).length).map (fun i=>AY l i.1)=(Bj l).reverse :=
 QV (l:=Bj l) (AY l) (by simp) fun i y h=>by
  unfold AY
  rw [List.getElem?_map] at h
  cases e:l[i]? with
  | none=>rw [e] at h;cases h
  | some z=>rw [e] at h;cases h;rfl
def J6 (s:jS)(a:Int):Value:=match pU (s.r::s.up) a with | some x=>.tuple #[u64 x,.bool true] | none=>.tuple #[u64 0,.bool false]
theorem yH [i:al L eD b s C](hK:G w0 L (K (J6 s a))):G w0 L (CP Tryz.prog abQ [ptr b 0,i64 a] K):=by
 refine i.ro (fun M hK=>?_) hK
 refine yA ?_
 unfold gK
 refine G.box fun x1=>?_
 refine G.new fun x2=>?_
 refine G.new fun x3=>?_
 refine G.take1 eD b ?_
 rw [fK]
 rintro v l ⟨hv,hs,hl⟩
 have hll:(kn l).length=l.length:=by simp
 have h4:=hs.six
 have h5:=Sv hl
 have hrev:(jY (kn l).length).map (fun i=>AY l i.1)=s.r::s.up:=by rw [Jd,hl];simp
 refine gr ?_
 refine eY ?_
 unfold dG
 refine G.box (cs:=[v]) fun d=>?_
 refine G.backP (v:=v) (rows:=kn l) (fun _=>own d [v]::own b [i64 s.most,v]::sl iJ v (kn l)::ob tv b l::own x3 [.bool false]::own x2 [u64 0]::own x1 [i64 a]::M)
  (fun pre=>own d [v]::own b [i64 s.most,v]::sl iJ v (kn l)::ob tv b l::own x3 [.bool true]::own x2 [u64 (match pre.getLast? with | some i=>(eI (AY l i.1).c a).getD 0 | none=>0)]::own x1 [i64 a]::M)
  (fun pre=>∀i∈pre,eI (AY l i.1).c a=none) (fun pre=>∃pre' i x,pre=pre'++[i]∧(∀i∈pre',eI (AY l i.1).c a=none)∧eI (AY l i.1).c a=some x)
  (by omega) (fun pre W H=>⟨H.own_mem.2.1,(H.drop.drop).sl_is⟩) rfl (by simp) (fun k m pre i J R hp hJ hR=>?_) (fun k m K' hp hk=>?_) (fun k m K' pre hpre hp hk=>?_)
 ·have hk2:i.1<l.length:=by have:=i.2;omega
  obtain⟨p,c,hx,e,hk3,e2⟩:=S6 hk2
  have ep:(kn l)[i.1]=p:=by have:=e.eq;rw [List.getElem?_eq_getElem i.2] at this;exact Option.some.inj this
  generalize hr:l[i.1].2.2=r at hx
  have hat:=O3 hx
  rw [ep]
  refine gg ?_
  refine G.take1 tv b ?_
  rw [Dj hx,fQ]
  intro v2 hv2
  refine gg ?_
  refine pj (cs:=r.c) (most:=96) ?_
  cases hi:eI r.c a with
  | some y =>
   simp only [F6,hi]
   refine gg ?_
   refine eM p c r hv2 ?_
   refine vZ (b:=b) hx ?_
   have h:=hR ⟨pre,i,y,rfl,hp,by rw [hat];exact hi⟩
   simp only [List.getLast?_append,List.getLast?_singleton,Option.some_or,hat,hi,Option.getD_some] at h
   exact h.sub
  | none =>
   simp only [F6,hi]
   refine gg ?_
   refine eM p c r hv2 ?_
   refine vZ (b:=b) hx ?_
   refine(hJ fun j hj=>?_).sub
   rcases List.mem_append.1 hj with h | h
   ·exact hp j h
   ·rw [List.mem_singleton.1 h,hat];exact hi
 ·have hn:pU (s.r::s.up) a=none:=by
   rw [←hrev]
   refine Gq fun q hq=>?_
   obtain⟨j,hj,rfl⟩:=List.mem_map.1 hq
   exact hp j hj
  simp only [J6,hn] at hK
  refine gg ?_
  refine hk _ _ ?_
  rw [fK] at hK
  exact(hK v l ⟨hv,hs,hl⟩).sub
 ·obtain⟨pre',i,y,rfl,h1,h2⟩:=hp
  obtain⟨rest,hrest⟩:=hpre
  have hn:pU (s.r::s.up) a=some y:=by
   rw [←hrev,←hrest,List.append_assoc,List.map_append]
   refine I0 h2 fun q hq=>?_
   obtain⟨j,hj,rfl⟩:=List.mem_map.1 hq
   exact h1 j hj
  simp only [J6,hn] at hK
  simp only [List.getLast?_append,List.getLast?_singleton,Option.some_or,h2,Option.getD_some]
  refine gg ?_
  refine hk _ _ ?_
  rw [fK] at hK
  exact(hK v l ⟨hv,hs,hl⟩).sub
end
end Go.Proofs.YtoealglbimbbmaaGreatDoor.S
namespace Go.Proofs.YtoealglbimbbmaaGreatDoor.S
open Go Go.Proofs
set_option linter.unusedVariables false
set_option linter.unusedSimpArgs false
section
variable {w0:bg}{L M:List ax}{K:KV}{F:World→Prop}{C:ax→List ax}{b p c k:Nat}{a x n:Int}{r:Lv}{s:jS}{us:List (Nat×Nat×Lv)}{v:Value}{l:List aw}
theorem GL {α:Type}{E:jB α}(b:Nat)(xs:List α) [cx [own b [v],sl E v xs] L M](hv:av v [v])(H:G w0 (ob (jP E) b xs::M) F):G w0 L F :=
 G.pickAll (As:=[own b [v],sl E v xs]) (by rw [fe] at H;exact H v hv)
theorem Tb (l:List (Nat×Nat×Lv)){m:Nat}(pre:List (Fin m)):((pre.map fun i=>AY l i.1).foldl Ey []).length≤96:=by
 generalize pre.map (fun i=>AY l i.1)=z
 have:∀(z:List Lv) (out:List aw),out.length≤96→(z.foldl Ey out).length≤96:=fun z=>by
  induction z with
  | nil=>exact fun out h=>h
  | cons r z ih=>exact fun out _=>ih _ OG
 exact this z [] (by simp)
theorem u9 [i:al L eD b s C](hK:∀u,av u [u]→G w0 (sl bd u s.cells::L) (K u)):G w0 L (CP Tryz.prog abw [ptr b 0] K):=by
 refine i.roN (fun M hK=>?_) hK
 refine vO ?_
 unfold gd
 refine G.new fun x1=>?_
 refine G.take1 eD b ?_
 rw [fK]
 rintro v l ⟨hv,hs,hl⟩
 have hll:(kn l).length=l.length:=by simp
 have h4:=hs.six
 have h5:=Sv hl
 have hrev:(jY (kn l).length).map (fun i=>AY l i.1)=s.r::s.up:=by rw [Jd,hl];simp
 refine G.nilsl bd ?_
 refine GL (E:=bd) (v:=.slice none 0 0) x1 [] bf ?_
 refine gr ?_
 refine eY ?_
 unfold dG
 refine G.box (cs:=[v]) fun d=>?_
 refine G.backP (v:=v) (rows:=kn l) (fun pre=>own d [v]::ob (jP bd) x1 ((pre.map fun i=>AY l i.1).foldl Ey [])::own b [i64 s.most,v]::sl iJ v (kn l)::ob tv b l::M)
  (fun pre=>[]) (fun pre=>True) (fun pre=>False)
  (by omega) (fun pre W H=>⟨H.own_mem.2.1,(H.drop.drop.drop).sl_is⟩) rfl trivial (fun k m pre i J R _ hJ hR=>?_) (fun k m K' _ hk=>?_) (fun k m K' pre hpre hp hk=>hp.elim)
 ·have hk2:i.1<l.length:=by have:=i.2;omega
  obtain⟨p,c,hx,e,hk3,e2⟩:=S6 hk2
  have ep:(kn l)[i.1]=p:=by have:=e.eq;rw [List.getElem?_eq_getElem i.2] at this;exact Option.some.inj this
  generalize hr:l[i.1].2.2=r at hx
  have hat:=O3 hx
  have hle:=Tb l pre
  have hJ:=hJ trivial
  rw [List.map_append,List.foldl_append] at hJ
  simp only [List.map_cons,List.map_nil,List.foldl_cons,List.foldl_nil,hat] at hJ
  generalize (pre.map fun i=>AY l i.1).foldl Ey []=out at hle hJ ⊢
  rw [show Ey out r=(lK 96 (lK 96 [] r.c).1 out).1 from rfl] at hJ
  rw [ep]
  refine tO fun w=>?_
  rw [show held 96 0 96=96 from rfl]
  refine gg ?_
  refine G.take1 tv b ?_
  rw [Dj hx,fQ]
  intro v2 hv2
  refine G.take1 (jP bd) x1 ?_
  rw [fe]
  intro v3 hv3
  refine G.okW (b:=c) (most:=96) (cs:=r.c) fun hw=>?_
  have hrl:(r.c.length:Int)≤96:=hw.len
  refine gg ?_
  refine gM (cs:=r.c) (most:=96) fun u hu=>?_
  repeat' (first | (with_reducible refine G.joini0 ?_) | (with_reducible refine G.joini1 ?_) | (with_reducible refine G.drew ?_) | (simp (maxSteps:=2000000) only [↓RG,RP,RB,BEq.rfl,Int.reduceEq,Int.reduceLT,Int.reduceLE,Nat.reduceEqDiff]))
  refine jn (cs:=[]) (most:=96) (l:=r.c) (by omega) ?_
  refine gg ?_
  refine jn (cs:=(lK 96 [] r.c).1) (most:=96) (l:=out) (by omega) ?_
  repeat' (first | (with_reducible refine G.joini0 ?_) | (with_reducible refine G.joini1 ?_) | (with_reducible refine G.drew ?_) | (simp (maxSteps:=2000000) only [↓RG,RP,RB,BEq.rfl,Int.reduceEq,Int.reduceLT,Int.reduceLE,Nat.reduceEqDiff]))
  refine gM (cs:=(lK 96 (lK 96 [] r.c).1 out).1) (most:=96) fun u2 hu2=>?_
  refine gg ?_
  refine eM p c r hv2 ?_
  refine vZ (b:=b) hx ?_
  refine GL (E:=bd) x1 (lK 96 (lK 96 [] r.c).1 out).1 hu2 ?_
  exact hJ.sub
 ·rw [hrev,Lm hs]
  refine G.take1 (jP bd) x1 ?_
  rw [fe]
  intro u hu
  refine gg ?_
  refine hk _ _ ?_
  have hK:=hK u hu
  rw [eN,fK] at hK
  exact(hK v l ⟨hv,hs,hl⟩).sub
theorem Of {k:Nat}{z:jS}(hk:k<l.length)(hp:iZ s l=iZ z (l.drop k)) :
  (kY z l[k].place=0→iZ s l=iZ (z.put l[k].place l[k].word) (l.drop (k+1)))∧(kY z l[k].place≠0→iZ s l=(z,kY z l[k].place)):=by
 have e:∀(z:jS) (c:aw) (l:List aw),iZ z (c::l)=if kY z c.place=0 then iZ (z.put c.place c.word) l else (z,kY z c.place):=fun _ _ _=>rfl
 rw [List.drop_eq_getElem_cons hk,e] at hp
 exact⟨fun h=>by rw [hp,if_pos h],fun h=>by rw [hp,if_neg h]⟩
theorem vW [i:al L eD b s C][r:∀A,Rd w0 (C A) v bd 2 l](hl:l.length≤1000000)(hK:G w0 (C (ob eD b (o8 s l).1)) (K (i64 (o8 s l).2))):G w0 L (CP Tryz.prog abR [ptr b 0,v] K):=by
 refine G.okL (b:=b) (s:=s) fun hs=>?_
 have ho:=hs.ok s.r (by simp)
 have h6:=hs.six
 have h1:=hs.len
 have h2:=hs.hi
 rw [eO] at h1
 refine i.useM (fun M hM hK=>?_) hK
 have r':=Rd.frame hM r
 refine wS ?_
 unfold oe
 refine tO fun w=>?_
 rw [show held 96 0 96=96 from rfl]
 refine G.take1 eD b ?_
 rw [mO]
 rintro vv p c us ⟨hv,_,hu⟩
 have hul:=JA hu
 refine TI (by omega) ?_
 refine G.take1 ga p ?_
 rw [fQ]
 intro v2 hv2
 refine gg ?_
 refine gM (cs:=s.r.c) (most:=96) fun u hu2=>?_
 repeat' (first | (with_reducible refine G.joini0 ?_) | (with_reducible refine G.joini1 ?_) | (with_reducible refine G.drew ?_) | (simp (maxSteps:=2000000) only [↓RG,RP,RB,BEq.rfl,Int.reduceEq,Int.reduceLT,Int.reduceLE,Nat.reduceEqDiff]))
 refine jn (cs:=[]) (most:=96) (l:=s.r.c) (by omega) ?_
 rw [AE (most:=96) (cs:=[]) ho.places (by simp;omega),ho.self]
 refine eM p c s.r hv2 ?_
 refine iL b s us p c rfl ⟨hv,hs,hu⟩ ?_
 refine gg ?_
 refine G.loop1 (σ:=Nat×jS) (fun z=>i64 z.1) (fun z=>ob eD b z.2::sl bd u s.r.c::ob fL w (96,s.r.c)::M) (fun z=>z.1≤l.length∧iZ s l=iZ z.2 (l.drop z.1)∧z.2.most=s.most∧z.2.up=s.up∧z.2.r.f=s.r.f) (fun z=>l.length-z.1) (0,s) rfl rfl ⟨by simp,by simp,rfl,rfl,rfl⟩ ?_
 rintro⟨k,z⟩ ⟨hk,hp,e1,e2,e3⟩ J hJ
 simp only at hk hp e1 e2 e3 hJ ⊢
 refine gr ?_
 refine G.cond (fun h=>?_) (fun h=>?_)
 ·have hk2:k<l.length:=by simpa using h
  have e:=cW hk2
  obtain⟨p1,p2⟩:=Of hk2 hp
  refine gr ?_
  refine G.new fun q=>?_
  refine gr ?_
  refine o6 (s:=z) ?_
  refine gr ?_
  refine G.cond (fun h=>?_) (fun h=>?_)
  ·have h0:kY z l[k].place≠0:=by simpa using h
   have p3:=p2 h0
   rw [if_neg h0]
   have h4:o8 s l=(s,kY z l[k].place):=by
    unfold o8;rw [p3];simp [h0]
   rw [h4] at hK
   refine G.take1 eD b ?_
   rw [mO]
   rintro v4 p4 c4 us4 ⟨hv4,_,hu4⟩
   have hul4:=JA hu4
   rw [e2] at hul4 hu4
   refine TI (by omega) ?_
   refine G.take1 ga p4 ?_
   rw [fQ]
   intro v5 hv5
   rw [e3]
   rw [e1]
   refine gg ?_
   refine eM p4 w ⟨s.r.c,s.r.f⟩ hv5 ?_
   refine iL b s us4 p4 w rfl ⟨hv4,hs,hu4⟩ ?_
   exact hK.sub
  ·have h0:kY z l[k].place=0:=by simpa using h
   rw [if_pos h0]
   refine gr ?_
   rw [dt (by omega)]
   exact(hJ (k+1,z.put l[k].place l[k].word) ⟨hk2,p1 h0,e1,e2,e3⟩ (by simp;omega)).sub
 ·have:l.drop k=[]:=List.drop_eq_nil_of_le (by simpa using h)
  rw [this] at hp
  have h4:o8 s l=(z,0):=by
   unfold o8;rw [hp];simp [iZ]
  rw [h4] at hK
  exact hK.sub
end
end Go.Proofs.YtoealglbimbbmaaGreatDoor.S
