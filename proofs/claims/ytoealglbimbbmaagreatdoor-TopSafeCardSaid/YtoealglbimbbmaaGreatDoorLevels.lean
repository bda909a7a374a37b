import Derived.Test.YtoealglbimbbmaaGreatDoorWrites
import Derived.Test.YtoealglbimbbmaaGreatDoorBack
import Derived.Test.YtoealglbimbbmaaGreatDoorSBack
namespace Go.Proofs.YtoealglbimbbmaaGreatDoor.S
open Go Go.Proofs
set_option linter.unusedVariables false
set_option linter.unusedSimpArgs false
structure Lv where
 c:List av
 f:List Int
structure jl where
 most:Int
 r:Lv
 up:List Lv
def oy:List Lv→Int→Option Int
 | [],_=>none
 | r::l,a=>match dD r.c a with | some x=>some x | none=>oy l a
def dU (l:List Lv):Nat:=(l.map (·.c.length)).sum
def gk (l:List Lv):List Int:=l.flatMap (·.f)
structure u4 (s:jl):Prop where
 lo:0≤s.most
 hi:s.most≤96
 len:(dU (s.r::s.up):Int)≤s.most
 six:s.up.length<6
 ok:∀r∈s.r::s.up,zW r.c
abbrev jl.room (s:jl):Int:=s.most-(dU (s.r::s.up):Int)
def jj (s:jl)(a:Int):Int:=if uA a then (if (iY s.r.c a).isSome then 0 else if s.room=0 then 5 else 0) else 2
def jl.put (s:jl)(a x:Int):jl:=⟨s.most,⟨hZ s.r.c a x,s.r.f⟩,s.up⟩
def fK:jl→List av→jl×Int
 | s,[]=>(s,0)
 | s,c::l=>if jj s c.place=0 then fK (s.put c.place c.word) l else (s,jj s c.place)
def lG (s:jl)(l:List av):jl×Int:=if (fK s l).2=0 then ((fK s l).1,0) else (s,(fK s l).2)
def Vw (s:jl):jl×Int:=match s.up with
 | []=>(s,10)
 | q::up=>(⟨s.most,⟨iW q.c s.r.c,q.f++s.r.f⟩,up⟩,0)
def Vu (s:jl):jl×Int:=match s.up with
 | []=>(s,10)
 | q::up=>(⟨s.most,q,up⟩,0)
def Vy (s:jl):jl×Int:=if 6≤s.up.length+1 then (s,9) else (⟨s.most,⟨[],[]⟩,s.r::s.up⟩,0)
def jl.free (s:jl)(n:Int):jl:=⟨s.most,⟨s.r.c,s.r.f++[n]⟩,s.up⟩
def jl.cells (s:jl):List av:=s.up.foldl (fun out q=>iW q.c out) s.r.c
def jl.frees (s:jl):List Int:=gk (s.up.reverse++[s.r])
theorem eY {r:Lv}{l:List Lv}:dU (r::l)=r.c.length+dU l:=by simp [dU]
theorem nu {l l':List Lv}:dU (l++l')=dU l+dU l':=by simp [dU]
theorem Du {l:List Lv}:dU l.reverse=dU l:=by
 induction l with
 | nil=>rfl
 | cons r l ih=>rw [List.reverse_cons,nu,ih,eY,eY];simp [dU];omega
theorem rL {l l':List Lv}:gk (l++l')=gk l++gk l':=by simp [gk]
theorem NQ {s:jl}{a:Int}(h:jj s a=0):uA a=true∧((iY s.r.c a).isSome=true∨s.room≠0):=by
 unfold jj at h
 split at h
 ·rename_i ha
  refine⟨ha,?_⟩
  split at h
  ·rename_i hs;exact .inl hs
  ·split at h
   ·cases h
   ·rename_i hr;exact .inr hr
 ·cases h
theorem u4.room {s:jl}(h:u4 s):0≤s.room:=by have:=h.len;unfold jl.room;omega
theorem u4.put {s:jl}{a x:Int}(h:u4 s)(he:jj s a=0):u4 (s.put a x):=by
 obtain⟨ha,hr⟩:=NQ he
 have hl:=h.len
 refine⟨h.lo,h.hi,?_,h.six,fun r hr'=>?_⟩
 ·simp only [jl.put,eY,vz] at hl ⊢
  rcases hr with hr | hr
  ·rw [if_pos hr];exact hl
  ·have:s.room=s.most-((s.r.c.length+dU s.up:Nat):Int):=by unfold jl.room;rw [eY]
   split <;> omega
 ·rcases List.mem_cons.1 hr' with e | hr'
  ·rw [e];exact(h.ok _ (by simp)).put ha
  ·exact h.ok _ (List.mem_cons_of_mem _ hr')
theorem u4.puts:∀{l:List av}{s:jl},u4 s→u4 (fK s l).1
 | [],s,h=>h
 | c::l,s,h=>by
  unfold fK
  split
  ·rename_i h0;exact u4.puts (h.put h0)
  ·exact h
theorem u4.take {s:jl}{l:List av}(h:u4 s):u4 (lG s l).1:=by
 unfold lG
 split
 ·exact h.puts
 ·exact h
theorem u4.new {n:Int}:u4 ⟨held n 0 96,⟨[],[]⟩,[]⟩:=by
 have hb:=eI (n:=n) (show (0:Int)≤96 by omega)
 refine⟨hb.1,hb.2,by simpa [dU] using hb.1,by simp,fun r hr=>?_⟩
 have:r=⟨[],[]⟩:=by simpa using hr
 rw [this];exact .nil
theorem u4.kept {s:jl}{q:Lv}{up:List Lv}(h:u4 s)(e:s.up=q::up):u4 ⟨s.most,⟨iW q.c s.r.c,q.f++s.r.f⟩,up⟩:=by
 have hl:=h.len
 have h6:=h.six
 have ho:=h.ok
 rw [e] at hl h6 ho
 have hp:=zy (cs:=q.c) (l:=s.r.c)
 refine⟨h.lo,h.hi,?_,by simp at h6 ⊢;omega,fun r hr=>?_⟩
 ·simp only [eY] at hl ⊢
  omega
 ·rcases List.mem_cons.1 hr with e2 | hr
  ·rw [e2];exact(ho q (by simp)).puts (ho s.r (by simp)).places
  ·exact ho _ (by simp [hr])
theorem u4.free {s:jl}{n:Int}(h:u4 s):u4 (s.free n):=by
 refine⟨h.lo,h.hi,?_,h.six,fun r hr=>?_⟩
 ·have:=h.len
  simpa [jl.free,eY] using this
 ·rcases List.mem_cons.1 hr with e | hr
  ·rw [e];exact h.ok s.r (by simp)
  ·exact h.ok _ (List.mem_cons_of_mem _ hr)
theorem DD {a:Int}:∀{l:List Lv},(∀r∈l,dD r.c a=none)→oy l a=none
 | [],_=>rfl
 | r::l,h=>by unfold oy;rw [h r (by simp)];exact DD fun q hq=>h q (by simp [hq])
theorem GA {a x:Int}{r:Lv}{l':List Lv}(hx:dD r.c a=some x):∀{l:List Lv},(∀r∈l,dD r.c a=none)→oy (l++r::l') a=some x
 | [],_=>by show oy (r::l') a=some x;unfold oy;rw [hx]
 | q::l,h=>by show oy (q::(l++r::l')) a=some x;unfold oy;rw [h q (by simp)];exact GA hx fun q hq=>h q (by simp [hq])
def CJ (out:List av)(r:Lv):List av:=(lB 96 (lB 96 [] r.c).1 out).1
theorem RL {out:List av}{r:Lv}(ho:zW r.c)(hout:∀c∈out,uA c.place=true)(hl:r.c.length+out.length≤96):CJ out r=iW r.c out:=by
 unfold CJ
 rw [zn (most:=96) (cs:=[]) ho.places (by simp;omega),ho.self,zn hout (by show (r.c.length+out.length:Int)≤96;omega)]
theorem Gm.new {n:Int}:Gm (held n 0 96) []:=by
 have hb:=eI (n:=n) (show (0:Int)≤96 by omega)
 exact⟨hb.1,hb.2,by simpa using hb.1,.nil⟩
theorem Mk {out:List av}{r:Lv}:(CJ out r).length≤96:=by
 have h:Gm 96 (CJ out r):=(Gm.take (Gm.take (Gm.new (n:=96))))
 have:=h.len
 omega
theorem JR:∀{l:List Lv}{out:List av},(∀r∈l,zW r.c)→(∀c∈out,uA c.place=true)→out.length+dU l≤96→l.foldl CJ out=l.foldl (fun out q=>iW q.c out) out
 | [],out,_,_,_=>rfl
 | r::l,out,h,ho,hl=>by
  rw [eY] at hl
  have hp:=zy (cs:=r.c) (l:=out)
  rw [List.foldl_cons,List.foldl_cons,RL (h r (by simp)) ho (by omega)]
  exact JR (fun q hq=>h q (by simp [hq])) ((h r (by simp)).puts ho).places (by omega)
theorem I9 {s:jl}(h:u4 s):(s.r::s.up).foldl CJ []=s.cells:=by
 have hl:=h.len
 have hi:=h.hi
 have ho:=h.ok s.r (by simp)
 rw [JR h.ok (by simp) (by simp;omega),List.foldl_cons]
 rfl
theorem Qt {s:jl}(h:u4 s):s.cells.length≤96:=by
 rw [←I9 h]
 generalize s.r::s.up=l
 have:∀(l:List Lv) (out:List av),out.length≤96→(l.foldl CJ out).length≤96:=fun l=>by
  induction l with
  | nil=>exact fun out h=>h
  | cons r l ih=>exact fun out _=>ih _ Mk
 exact this l [] (by simp)
def gm (b:Nat)(s:Nat×Lv):bd:=od fun v=>bt (gX (bf v [v])) (bt (bt (own b [ptr s.1 0,v]) (ob fY s.1 (96,s.2.c))) (sl bx v s.2.f))
def sI (b:Nat)(l:List (Nat×Nat×Lv)):bd:=di (l.map fun x=>ob gm x.1 x.2)
abbrev kK (l:List (Nat×Nat×Lv)):List Nat:=l.map (·.1)
abbrev Au (l:List (Nat×Nat×Lv)):List Lv:=l.map (·.2.2)
def eK (b:Nat)(s:jl):bd:=od fun v=>od fun(l:List (Nat×Nat×Lv))=>bt (gX (bf v [v]∧u4 s∧Au l=s.up.reverse++[s.r])) (bt (bt (own b [i64 s.most,v]) (sl i0 v (kK l))) (ob sI b l))
section
variable {w0:bo}{L M:List bd}{K:KV}{F:World→Prop}{C:bd→List bd}{b p c k:Nat}{a x n:Int}{r:Lv}{s:jl}{l us:List (Nat×Nat×Lv)}{v:Value}
theorem CB {l l':List (Nat×Nat×Lv)}:kK (l++l')=kK l++kK l':=List.map_append
theorem DX {l l':List (Nat×Nat×Lv)}:Au (l++l')=Au l++Au l':=List.map_append
theorem f9:G w0 (ob gm p (c,r)::M) F=∀v,bf v [v]→G w0 (own p [ptr c 0,v]::ob fY c (96,r.c)::sl bx v r.f::M) F:=by
 rw [em,gm]
 simp only [qm,ez,fI]
theorem eQ {v:Value}(p c:Nat)(r:Lv) [dM [own p [ptr c 0,v],ob fY c (96,r.c),sl bx v r.f] L M](hv:bf v [v])(H:G w0 (ob gm p (c,r)::M) F):G w0 L F :=
 G.pickAll (As:=[own p [ptr c 0,v],ob fY c (96,r.c),sl bx v r.f]) (by rw [f9] at H;exact H v hv)
theorem Ln {α:Type}(f:α→bd):∀{l:List α}{k:Nat}{x:α},l[k]? = some x→di (l.map f)=di (f x::(l.eraseIdx k).map f)
 | [],k,x,h=>by simp at h
 | y::l,0,x,h=>by simp at h;subst h;rfl
 | y::l,k+1,x,h=>by
  have:=Ln f (l:=l) (k:=k) (x:=x) (by simpa using h)
  show bt (f y) (di (l.map f))=bt (f x) (bt (f y) (di ((l.eraseIdx k).map f)))
  rw [this,iS];rfl
theorem Bj {p c:Nat}{r:Lv}(h:l[k]? = some (p,c,r)):G w0 (ob sI b l::M) F=G w0 (ob gm p (c,r)::ob sI b (l.eraseIdx k)::M) F:=dq (by
 show bt (ob sI b l) (di M)=bt (ob gm p (c,r)) (bt (ob sI b (l.eraseIdx k)) (di M))
 rw [em sI,em sI,sI,Ln _ h,←Dd];rfl)
theorem AA:G w0 (ob sI b (us++[(p,c,r)])::M) F=G w0 (ob gm p (c,r)::ob sI b us::M) F:=by
 rw [Bj (k:=us.length) (p:=p) (c:=c) (r:=r) (by simp)]
 congr 3
 simp [List.eraseIdx_append_of_length_le]
theorem PI (b:Nat)(us:List (Nat×Nat×Lv))(p c:Nat)(r:Lv) [dM [ob gm p (c,r),ob sI b us] L M](H:G w0 (ob sI b (us++[(p,c,r)])::M) F):G w0 L F :=
 G.pickAll (As:=[ob gm p (c,r),ob sI b us]) (by rw [AA] at H;exact H)
theorem vW {p c:Nat}{r:Lv}(h:l[k]? = some (p,c,r)) [dM [ob gm p (c,r),ob sI b (l.eraseIdx k)] L M](H:G w0 (ob sI b l::M) F):G w0 L F :=
 G.pickAll (As:=[ob gm p (c,r),ob sI b (l.eraseIdx k)]) (by rw [Bj h] at H;exact H)
theorem sP {As Bs:List bd}:di (As++Bs)=bt (di As) (di Bs):=by
 induction As with
 | nil=>exact(qj _).symm
 | cons A As ih=>show bt A (di (As++Bs))=bt (bt A (di As)) (di Bs);rw [ih,Dd]
theorem R1 {As:List bd}(H:G w0 (As++ob sI b []::M) F):G w0 (As++M) F:=by
 rw [dq (L':=As++M)] at H
 ·exact H
 ·rw [sP,sP]
  show bt _ (bt (ob sI b []) _)=_
  rw [em sI]
  show bt _ (bt LR _)=_
  rw [qj]
theorem fV:G w0 (ob eK b s::M) F=∀v l,(bf v [v]∧u4 s∧Au l=s.up.reverse++[s.r])→G w0 (own b [i64 s.most,v]::sl i0 v (kK l)::ob sI b l::M) F:=by
 rw [em,eK]
 simp only [qm,ez,fI]
theorem nh:G w0 (ob eK b s::M) F=∀v p c us,(bf v [v]∧u4 s∧Au us=s.up.reverse)→G w0 (own b [i64 s.most,v]::sl i0 v (kK us++[p])::ob gm p (c,s.r)::ob sI b us::M) F:=by
 rw [fV]
 have e:∀v us p c,G w0 (own b [i64 s.most,v]::sl i0 v (kK (us++[(p,c,s.r)]))::ob sI b (us++[(p,c,s.r)])::M) F=G w0 (own b [i64 s.most,v]::sl i0 v (kK us++[p])::ob gm p (c,s.r)::ob sI b us::M) F:=fun v us p c=>by
  rw [E1,AA,CB]
  apply dq
  show bt _ (bt _ (bt _ (bt _ _)))=bt _ (bt _ (bt _ (bt _ _)))
  rw [iS (ob sI b us),iS (ob sI b us),iS (ob gm p (c,s.r)),iS (ob gm p (c,s.r))]
  rfl
 apply propext
 constructor
 ·rintro H v p c us ⟨h1,h2,h3⟩
  rw [←e]
  exact H v (us++[(p,c,s.r)]) ⟨h1,h2,by rw [DX,h3];rfl⟩
 ·rintro H v l ⟨h1,h2,h3⟩
  obtain⟨us,y,hl,h4,h5⟩:=List.map_eq_append_iff.1 h3
  obtain⟨z,zs,rfl,h6,h7⟩:=List.map_eq_cons_iff.1 h5
  have:zs=[]:=by simpa using h7
  subst this
  obtain⟨p,c,q⟩:=z
  simp only at h6
  subst h6
  subst hl
  rw [e]
  exact H v p c us ⟨h1,h2,h4⟩
theorem i9 {v:Value}{xs:List Nat}(b:Nat)(s:jl)(us:List (Nat×Nat×Lv))(p c:Nat) [dM [own b [i64 s.most,v],sl i0 v xs,ob gm p (c,s.r),ob sI b us] L M](hx:xs=kK us++[p])(h:bf v [v]∧u4 s∧Au us=s.up.reverse)(H:G w0 (ob eK b s::M) F):G w0 L F :=
 G.pickAll (As:=[own b [i64 s.most,v],sl i0 v xs,ob gm p (c,s.r),ob sI b us]) (by rw [nh] at H;subst hx;exact H v p c us h)
theorem G.okL [i:au L eK b s C](h:u4 s→G w0 L F):G w0 L F:=by
 by_cases hw:u4 s
 ·exact h hw
 ·refine i.ro (F':=fun _=>True) (fun M _=>?_) (fun _ _=>trivial)
  rw [fV]
  exact fun v l hv=>absurd hv.2.1 hw
theorem IF {up:List Lv}(h:Au us=up.reverse):us.length=up.length:=by
 have:=congrArg List.length h
 simpa using this
theorem D8 (hK:∀p c,G w0 (ob gm p (c,⟨[],[]⟩)::L) (K (ptr p 0))):G w0 L (CP Tryz.prog YZ [] K):=by
 refine DQ ?_
 unfold wx
 refine tD fun c=>?_
 rw [show held 96 0 96=96 from rfl]
 refine gr ?_
 refine G.nilsl bx ?_
 refine G.box fun p=>?_
 refine eQ (v:=.slice none 0 0) p c ⟨[],[]⟩ bm ?_
 exact hK p c
theorem AJ {n:Int}(hK:∀b,G w0 (ob eK b ⟨held n 0 96,⟨[],[]⟩,[]⟩::L) (K (ptr b 0))):G w0 L (CP Tryz.prog WQ [i64 n] K):=by
 refine IG ?_
 unfold AW
 refine gr ?_
 have e3:(if (if (96:Int)<n then (96:Int) else n) > 0 then (if (96:Int)<n then (96:Int) else n) else 0)=held n 0 96:=by
  unfold held;split <;> split <;> split <;> (try split) <;> omega
 rw [e3]
 refine D8 fun p c=>?_
 refine G.build i0 [p] rfl (by simp) rfl fun v hv=>?_
 refine gr ?_
 refine G.box fun b=>?_
 have h:=hK b
 rw [nh] at h
 have h2:=h v p c [] ⟨hv,u4.new,rfl⟩
 exact R1 (b:=b) (As:=[own b [i64 (held n 0 96),v],sl i0 v [p],ob gm p (c,⟨[],[]⟩)]) h2
theorem Ro (hl:us.length≤1000000)(hK:G w0 (own b [i64 n,v]::sl i0 v (kK us++[p])::M) (K (ptr p 0))):G w0 (own b [i64 n,v]::sl i0 v (kK us++[p])::M) (CP Tryz.prog VV [ptr b 0] K):=by
 refine yV ?_
 unfold qr
 have e:fe (kK us++[p]) us.length p:=⟨by simp⟩
 refine G.drew ?_
 refine gr ?_
 have w1:IntKind.wrap .i64 (((kK us++[p]).length:Nat)-1:Int)=(us.length:Int):=by
  simp only [List.length_append,List.length_map,List.length_singleton]
  rw [gh (by omega) (by omega)];omega
 rw [w1]
 refine gr ?_
 exact hK
theorem vF [i:au L eK b s C](hf:s.r.f.length≤1000000)(hK:G w0 (C (ob eK b (s.free n))) (K (.tuple #[]))):G w0 L (CP Tryz.prog Zk [ptr b 0,i64 n] K):=by
 refine i.use (fun M hK=>?_) hK
 rw [nh]
 rintro v p c us ⟨hv,hs,hu⟩
 have hul:=IF hu
 have h6:=hs.six
 refine uY ?_
 unfold nL
 refine Ro (by omega) ?_
 refine G.take1 gm p ?_
 rw [f9]
 intro v2 hv2
 refine gr ?_
 refine G.append1 (E:=bx) rfl rfl (by decide) (by omega) (by simp only [maxLen];omega) fun u hu2=>?_
 refine gr ?_
 refine eQ p c ⟨s.r.c,s.r.f++[n]⟩ hu2 ?_
 refine i9 b ⟨s.most,⟨s.r.c,s.r.f++[n]⟩,s.up⟩ us p c rfl ⟨hv,hs.free,hu⟩ ?_
 exact hK
end
end Go.Proofs.YtoealglbimbbmaaGreatDoor.S
namespace Go.Proofs.YtoealglbimbbmaaGreatDoor.S
open Go Go.Proofs
set_option linter.unusedVariables false
set_option linter.unusedSimpArgs false
theorem Jp {l:List Lv}{k:Nat}(hk:k<l.length):dU (l.take (k+1))=dU (l.take k)+l[k].c.length:=by
 rw [List.take_add_one,List.getElem?_eq_getElem hk,nu]
 simp [dU]
theorem wI {l:List Lv}{k:Nat}:dU (l.take k)≤dU l:=by
 have:dU (l.take k++l.drop k)=dU (l.take k)+dU (l.drop k):=nu
 rw [List.take_append_drop] at this
 omega
theorem B2 {l:List Lv}{k:Nat}(hk:k<l.length):gk (l.take (k+1))=gk (l.take k)++l[k].f:=by
 rw [List.take_add_one,List.getElem?_eq_getElem hk,rL]
 simp [gk]
theorem Fe {l:List Lv}{k:Nat}(hk:k<l.length):(gk (l.take k)).length+l[k].f.length≤(gk l).length:=by
 have:gk (l.take (k+1)++l.drop (k+1))=gk (l.take (k+1))++gk (l.drop (k+1)):=rL
 rw [List.take_append_drop,B2 hk] at this
 rw [this]
 simp
section
variable {w0:bo}{L M:List bd}{K:KV}{F:World→Prop}{C:bd→List bd}{b p c k:Nat}{a x n:Int}{r:Lv}{s:jl}{l us:List (Nat×Nat×Lv)}{v:Value}{xs:List Nat}
theorem Rr {k:Nat}(hk:k<l.length):∃p c,l[k]? = some (p,c,l[k].2.2)∧fe (kK l) k p∧∃h:k<(Au l).length,(Au l)[k]=l[k].2.2 :=
 ⟨l[k].1,l[k].2.1,List.getElem?_eq_getElem hk,⟨by simp [hk]⟩,by simpa using hk,by simp⟩
theorem Jw (hx:xs=kK l)(hl:l.length≤1000000)(h0:0≤n)(h1:n≤96)(ht:dU (Au l)≤96)(hK:G w0 (own b [i64 n,v]::sl i0 v xs::ob sI b l::M) (K (i64 (n-dU (Au l))))) :
  G w0 (own b [i64 n,v]::sl i0 v xs::ob sI b l::M) (CP Tryz.prog Zh [ptr b 0] K):=by
 subst hx
 refine uQ ?_
 unfold oz
 have hll:(kK l).length=l.length:=by simp
 refine eC hll ?_
 refine G.loop2 (fun k:Nat=>i64 (n-dU ((Au l).take k))) (fun k:Nat=>i64 k) (fun _=>own b [i64 n,v]::sl i0 v (kK l)::ob sI b l::M) (fun k=>k≤l.length) (fun k=>l.length-k) 0 (by simp [dU]) rfl rfl (by simp) ?_
 intro k hk J hJ
 refine gr ?_
 refine G.cond (fun h=>?_) (fun h=>?_)
 ·have hk2:k<l.length:=by simpa using h
  obtain⟨p,c,hx,e,hk3,e2⟩:=Rr hk2
  have t1:=Jp hk3
  have t2:=wI (l:=Au l) (k:=k)
  have t3:=wI (l:=Au l) (k:=k+1)
  rw [e2] at t1
  generalize l[k].2.2=r at hx t1
  refine gr ?_
  refine G.take1 sI b ?_
  rw [Bj hx,f9]
  intro v2 hv2
  refine gr ?_
  refine xu (cs:=r.c) (most:=96) ?_
  refine gr ?_
  rw [dx (by omega),gh (by omega) (by omega)]
  refine eQ p c r hv2 ?_
  refine vW (b:=b) hx ?_
  have h:=hJ (k+1) hk2 (by omega)
  rw [t1] at h
  rw [show n-(dU (List.take k (Au l)):Int)-r.c.length=n-((dU (List.take k (Au l))+r.c.length:Nat):Int) by omega]
  exact h.sub
 ·have:(Au l).take k=Au l:=List.take_of_length_le (by simpa using h)
  rw [this]
  exact hK
theorem u4.total {s:jl}(hs:u4 s)(hl:Au l=s.up.reverse++[s.r]):dU (Au l)=dU (s.r::s.up):=by
 rw [hl,nu,Du,eY,eY];simp [dU];omega
theorem PV {s:jl}(hl:Au l=s.up.reverse++[s.r]):l.length=s.up.length+1:=by
 have:=congrArg List.length hl
 simpa using this
theorem o7 [i:au L eK b s C](hK:G w0 (C (ob eK b (if jj s a=0 then s.put a x else s))) (K (i64 (jj s a)))):G w0 L (CP Tryz.prog W5 [ptr b 0,i64 a,u64 x] K):=by
 refine i.use (fun M hK=>?_) hK
 refine xC ?_
 unfold ph
 refine gu ?_
 refine gr ?_
 refine G.cond (fun h=>?_) (fun h=>?_)
 ·have h0:jj s a=2:=by unfold jj;rw [if_neg];rw [Ba];simp at h;omega
  rw [h0] at hK
  exact hK
 ·have ha:uA a=true:=by rw [Ba];simp at h;omega
  rw [nh]
  rintro v p c us ⟨hv,hs,hu⟩
  have hul:=IF hu
  have h6:=hs.six
  have b1:=hs.lo
  have b2:=hs.hi
  have b3:=hs.len
  refine Ro (by omega) ?_
  refine G.take1 gm p ?_
  rw [f9]
  intro v2 hv2
  refine gr ?_
  refine oX (cs:=s.r.c) (most:=96) ?_
  have hsome:=rh (cs:=s.r.c) (a:=a)
  cases hi:dD s.r.c a with
  | some y =>
   rw [hi] at hsome
   have h0:jj s a=0:=by unfold jj;rw [if_pos ha,hsome];rfl
   have h1:mg 96 s.r.c a=0:=by unfold mg;rw [if_pos ha,hsome];rfl
   rw [h0,if_pos rfl] at hK
   simp only [En,hi]
   refine gg ?_
   refine j0 (cs:=s.r.c) (most:=96) ?_
   rw [h1,if_pos rfl]
   refine eQ p c ⟨hZ s.r.c a x,s.r.f⟩ hv2 ?_
   refine i9 b ⟨s.most,⟨hZ s.r.c a x,s.r.f⟩,s.up⟩ us p c rfl ⟨hv,hs.put h0,hu⟩ ?_
   exact hK
  | none =>
   rw [hi] at hsome
   have hsome:(iY s.r.c a).isSome=false:=by simpa using hsome
   simp only [En,hi]
   refine gg ?_
   refine eQ p c s.r hv2 ?_
   refine PI b us p c s.r ?_
   refine G.take1 (RE i0) v ?_
   refine G.take1 oU b ?_
   have hl:Au (us++[(p,c,s.r)])=s.up.reverse++[s.r]:=by rw [DX,hu];rfl
   have ht:=hs.total hl
   refine Jw (l:=us++[(p,c,s.r)]) (by rw [CB];rfl) (by simp;omega) (by omega) (by omega) (by omega) ?_
   rw [ht]
   by_cases hr:s.room=0
   ·have h0:jj s a=5:=by unfold jj;rw [if_pos ha,hsome];simp [hr]
    have hr2:s.most-(dU (s.r::s.up):Int)=0:=hr
    rw [h0,if_neg (by decide)] at hK
    refine gf hr2 ?_
    refine G.take1 sI b ?_
    rw [AA]
    refine i9 b s us p c rfl ⟨hv,hs,hu⟩ ?_
    exact hK
   ·have h0:jj s a=0:=by unfold jj;rw [if_pos ha,hsome];simp [hr]
    have hr2:¬s.most-(dU (s.r::s.up):Int)=0:=hr
    have hlen:s.r.c.length<96:=by rw [eY] at b3 hr2;omega
    have h1:mg 96 s.r.c a=0:=by unfold mg;rw [if_pos ha,hsome,if_neg (by decide),if_neg (by omega)]
    rw [h0,if_pos rfl] at hK
    refine gf hr2 ?_
    refine G.take1 sI b ?_
    rw [AA,f9]
    intro v3 hv3
    refine j0 (cs:=s.r.c) (most:=96) ?_
    rw [h1,if_pos rfl]
    refine eQ p c ⟨hZ s.r.c a x,s.r.f⟩ hv3 ?_
    refine i9 b ⟨s.most,⟨hZ s.r.c a x,s.r.f⟩,s.up⟩ us p c rfl ⟨hv,hs.put h0,hu⟩ ?_
    exact hK
theorem ur [i:au L eK b s C](hf:s.frees.length≤1000000)(hK:∀u,bf u [u]→G w0 (sl bx u s.frees::L) (K u)):G w0 L (CP Tryz.prog YM [ptr b 0] K):=by
 refine i.roN (fun M hK=>?_) hK
 rw [fV]
 rintro v l ⟨hv,hs,hl⟩
 have hll:(kK l).length=l.length:=by simp
 have h4:=hs.six
 have h5:=PV hl
 unfold jl.frees at hf hK
 rw [←hl] at hf hK
 refine uf ?_
 unfold mI
 refine eC hll ?_
 refine G.nilsl bx ?_
 refine G.loop2 (σ:=Value×Nat) (fun z=>z.1) (fun z=>i64 z.2) (fun z=>sl bx z.1 (gk ((Au l).take z.2))::own b [i64 s.most,v]::sl i0 v (kK l)::ob sI b l::M) (fun z=>z.2≤l.length∧bf z.1 [z.1]) (fun z=>l.length-z.2) (_,0) rfl rfl (by simp [gk]) ⟨by simp,bm⟩ ?_
 rintro⟨u,k⟩ ⟨hk,hu⟩ J hJ
 simp only at hk hu hJ ⊢
 refine gr ?_
 refine G.cond (fun h=>?_) (fun h=>?_)
 ·have hk2:k<l.length:=by simpa using h
  obtain⟨p,c,hx,e,hk3,e2⟩:=Rr hk2
  have t1:=B2 hk3
  have t2:=Fe hk3
  rw [e2] at t1 t2
  generalize l[k].2.2=r at hx t1 t2
  refine gr ?_
  refine G.take1 sI b ?_
  rw [Bj hx,f9]
  intro v2 hv2
  refine gr ?_
  refine G.append (xs:=gk (List.take k (Au l))) (ys:=r.f) (by omega) (by simp only [maxLen];omega) fun u2 hu2=>?_
  refine gr ?_
  rw [dx (by omega)]
  refine eQ p c r hv2 ?_
  refine vW (b:=b) hx ?_
  have h:=hJ (u2,k+1) ⟨hk2,hu2⟩ (by simp;omega)
  simp only [t1] at h
  exact h.sub
 ·have:(Au l).take k=Au l:=List.take_of_length_le (by simpa using h)
  rw [this]
  have hK:=hK u hu
  rw [fC,fV] at hK
  exact(hK v l ⟨hv,hs,hl⟩).sub
def za (l:List (Nat×Nat×Lv))(k:Nat):Lv:=match l[k]? with | some x=>x.2.2 | none=>⟨[],[]⟩
theorem Nc {k:Nat}{p c:Nat}{r:Lv}(h:l[k]? = some (p,c,r)):za l k=r:=by unfold za;rw [h]
theorem GC:(kq (kK l).length).map (fun i=>za l i.1)=(Au l).reverse :=
 Nt (l:=Au l) (za l) (by simp) fun i y h=>by
  unfold za
  rw [List.getElem?_map] at h
  cases e:l[i]? with
  | none=>rw [e] at h;cases h
  | some z=>rw [e] at h;cases h;rfl
def HY (s:jl)(a:Int):Value:=match oy (s.r::s.up) a with | some x=>.tuple #[u64 x,.bool true] | none=>.tuple #[u64 0,.bool false]
theorem xv [i:au L eK b s C](hK:G w0 L (K (HY s a))):G w0 L (CP Tryz.prog Y3 [ptr b 0,i64 a] K):=by
 refine i.ro (fun M hK=>?_) hK
 refine xn ?_
 unfold ic
 refine G.box fun x1=>?_
 refine G.new fun x2=>?_
 refine G.new fun x3=>?_
 refine G.take1 eK b ?_
 rw [fV]
 rintro v l ⟨hv,hs,hl⟩
 have hll:(kK l).length=l.length:=by simp
 have h4:=hs.six
 have h5:=PV hl
 have hrev:(kq (kK l).length).map (fun i=>za l i.1)=s.r::s.up:=by rw [GC,hl];simp
 refine gr ?_
 refine ff ?_
 unfold dJ
 refine G.box (cs:=[v]) fun d=>?_
 refine G.backP (v:=v) (rows:=kK l) (fun _=>own d [v]::own b [i64 s.most,v]::sl i0 v (kK l)::ob sI b l::own x3 [.bool false]::own x2 [u64 0]::own x1 [i64 a]::M)
  (fun pre=>own d [v]::own b [i64 s.most,v]::sl i0 v (kK l)::ob sI b l::own x3 [.bool true]::own x2 [u64 (match pre.getLast? with | some i=>(dD (za l i.1).c a).getD 0 | none=>0)]::own x1 [i64 a]::M)
  (fun pre=>∀i∈pre,dD (za l i.1).c a=none) (fun pre=>∃pre' i x,pre=pre'++[i]∧(∀i∈pre',dD (za l i.1).c a=none)∧dD (za l i.1).c a=some x)
  (by omega) (fun pre W H=>⟨H.own_mem.2.1,(H.drop.drop).sl_is⟩) rfl (by simp) (fun k m pre i J R hp hJ hR=>?_) (fun k m K' hp hk=>?_) (fun k m K' pre hpre hp hk=>?_)
 ·have hk2:i.1<l.length:=by have:=i.2;omega
  obtain⟨p,c,hx,e,hk3,e2⟩:=Rr hk2
  have ep:(kK l)[i.1]=p:=by have:=e.eq;rw [List.getElem?_eq_getElem i.2] at this;exact Option.some.inj this
  generalize hr:l[i.1].2.2=r at hx
  have hat:=Nc hx
  rw [ep]
  refine gg ?_
  refine G.take1 sI b ?_
  rw [Bj hx,f9]
  intro v2 hv2
  refine gg ?_
  refine oX (cs:=r.c) (most:=96) ?_
  cases hi:dD r.c a with
  | some y =>
   simp only [En,hi]
   refine gg ?_
   refine eQ p c r hv2 ?_
   refine vW (b:=b) hx ?_
   have h:=hR ⟨pre,i,y,rfl,hp,by rw [hat];exact hi⟩
   simp only [List.getLast?_append,List.getLast?_singleton,Option.some_or,hat,hi,Option.getD_some] at h
   exact h.sub
  | none =>
   simp only [En,hi]
   refine gg ?_
   refine eQ p c r hv2 ?_
   refine vW (b:=b) hx ?_
   refine(hJ fun j hj=>?_).sub
   rcases List.mem_append.1 hj with h | h
   ·exact hp j h
   ·rw [List.mem_singleton.1 h,hat];exact hi
 ·have hn:oy (s.r::s.up) a=none:=by
   rw [←hrev]
   refine DD fun q hq=>?_
   obtain⟨j,hj,rfl⟩:=List.mem_map.1 hq
   exact hp j hj
  simp only [HY,hn] at hK
  refine gg ?_
  refine hk _ _ ?_
  rw [fV] at hK
  exact(hK v l ⟨hv,hs,hl⟩).sub
 ·obtain⟨pre',i,y,rfl,h1,h2⟩:=hp
  obtain⟨rest,hrest⟩:=hpre
  have hn:oy (s.r::s.up) a=some y:=by
   rw [←hrev,←hrest,List.append_assoc,List.map_append]
   refine GA h2 fun q hq=>?_
   obtain⟨j,hj,rfl⟩:=List.mem_map.1 hq
   exact h1 j hj
  simp only [HY,hn] at hK
  simp only [List.getLast?_append,List.getLast?_singleton,Option.some_or,h2,Option.getD_some]
  refine gg ?_
  refine hk _ _ ?_
  rw [fV] at hK
  exact(hK v l ⟨hv,hs,hl⟩).sub
end
end Go.Proofs.YtoealglbimbbmaaGreatDoor.S
namespace Go.Proofs.YtoealglbimbbmaaGreatDoor.S
open Go Go.Proofs
set_option linter.unusedVariables false
set_option linter.unusedSimpArgs false
section
variable {w0:bo}{L M:List bd}{K:KV}{F:World→Prop}{C:bd→List bd}{b p c k:Nat}{a x n:Int}{r:Lv}{s:jl}{us:List (Nat×Nat×Lv)}{v:Value}{l:List av}
theorem EB {α:Type}{E:jY α}(b:Nat)(xs:List α) [dM [own b [v],sl E v xs] L M](hv:bf v [v])(H:G w0 (ob (jZ E) b xs::M) F):G w0 L F :=
 G.pickAll (As:=[own b [v],sl E v xs]) (by rw [ft] at H;exact H v hv)
theorem Rf (l:List (Nat×Nat×Lv)){m:Nat}(pre:List (Fin m)):((pre.map fun i=>za l i.1).foldl CJ []).length≤96:=by
 generalize pre.map (fun i=>za l i.1)=z
 have:∀(z:List Lv) (out:List av),out.length≤96→(z.foldl CJ out).length≤96:=fun z=>by
  induction z with
  | nil=>exact fun out h=>h
  | cons r z ih=>exact fun out _=>ih _ Mk
 exact this z [] (by simp)
theorem uF [i:au L eK b s C](hK:∀u,bf u [u]→G w0 (sl bk u s.cells::L) (K u)):G w0 L (CP Tryz.prog YG [ptr b 0] K):=by
 refine i.roN (fun M hK=>?_) hK
 refine ui ?_
 unfold gx
 refine G.new fun x1=>?_
 refine G.take1 eK b ?_
 rw [fV]
 rintro v l ⟨hv,hs,hl⟩
 have hll:(kK l).length=l.length:=by simp
 have h4:=hs.six
 have h5:=PV hl
 have hrev:(kq (kK l).length).map (fun i=>za l i.1)=s.r::s.up:=by rw [GC,hl];simp
 refine G.nilsl bk ?_
 refine EB (E:=bk) (v:=.slice none 0 0) x1 [] bm ?_
 refine gr ?_
 refine ff ?_
 unfold dJ
 refine G.box (cs:=[v]) fun d=>?_
 refine G.backP (v:=v) (rows:=kK l) (fun pre=>own d [v]::ob (jZ bk) x1 ((pre.map fun i=>za l i.1).foldl CJ [])::own b [i64 s.most,v]::sl i0 v (kK l)::ob sI b l::M)
  (fun pre=>[]) (fun pre=>True) (fun pre=>False)
  (by omega) (fun pre W H=>⟨H.own_mem.2.1,(H.drop.drop.drop).sl_is⟩) rfl trivial (fun k m pre i J R _ hJ hR=>?_) (fun k m K' _ hk=>?_) (fun k m K' pre hpre hp hk=>hp.elim)
 ·have hk2:i.1<l.length:=by have:=i.2;omega
  obtain⟨p,c,hx,e,hk3,e2⟩:=Rr hk2
  have ep:(kK l)[i.1]=p:=by have:=e.eq;rw [List.getElem?_eq_getElem i.2] at this;exact Option.some.inj this
  generalize hr:l[i.1].2.2=r at hx
  have hat:=Nc hx
  have hle:=Rf l pre
  have hJ:=hJ trivial
  rw [List.map_append,List.foldl_append] at hJ
  simp only [List.map_cons,List.map_nil,List.foldl_cons,List.foldl_nil,hat] at hJ
  generalize (pre.map fun i=>za l i.1).foldl CJ []=out at hle hJ ⊢
  rw [show CJ out r=(lB 96 (lB 96 [] r.c).1 out).1 from rfl] at hJ
  rw [ep]
  refine tD fun w=>?_
  rw [show held 96 0 96=96 from rfl]
  refine gg ?_
  refine G.take1 sI b ?_
  rw [Bj hx,f9]
  intro v2 hv2
  refine G.take1 (jZ bk) x1 ?_
  rw [ft]
  intro v3 hv3
  refine G.okW (b:=c) (most:=96) (cs:=r.c) fun hw=>?_
  have hrl:(r.c.length:Int)≤96:=hw.len
  refine gg ?_
  refine ib (cs:=r.c) (most:=96) fun u hu=>?_
  repeat' (first | (with_reducible refine G.joini0 ?_) | (with_reducible refine G.joini1 ?_) | (with_reducible refine G.drew ?_) | (simp (maxSteps:=2000000) only [↓RG,RP,RB,BEq.rfl,Int.reduceEq,Int.reduceLT,Int.reduceLE,Nat.reduceEqDiff]))
  refine jt (cs:=[]) (most:=96) (l:=r.c) (by omega) ?_
  refine gg ?_
  refine jt (cs:=(lB 96 [] r.c).1) (most:=96) (l:=out) (by omega) ?_
  repeat' (first | (with_reducible refine G.joini0 ?_) | (with_reducible refine G.joini1 ?_) | (with_reducible refine G.drew ?_) | (simp (maxSteps:=2000000) only [↓RG,RP,RB,BEq.rfl,Int.reduceEq,Int.reduceLT,Int.reduceLE,Nat.reduceEqDiff]))
  refine ib (cs:=(lB 96 (lB 96 [] r.c).1 out).1) (most:=96) fun u2 hu2=>?_
  refine gg ?_
  refine eQ p c r hv2 ?_
  refine vW (b:=b) hx ?_
  refine EB (E:=bk) x1 (lB 96 (lB 96 [] r.c).1 out).1 hu2 ?_
  exact hJ.sub
 ·rw [hrev,I9 hs]
  refine G.take1 (jZ bk) x1 ?_
  rw [ft]
  intro u hu
  refine gg ?_
  refine hk _ _ ?_
  have hK:=hK u hu
  rw [fC,fV] at hK
  exact(hK v l ⟨hv,hs,hl⟩).sub
theorem Ll {k:Nat}{z:jl}(hk:k<l.length)(hp:fK s l=fK z (l.drop k)) :
  (jj z l[k].place=0→fK s l=fK (z.put l[k].place l[k].word) (l.drop (k+1)))∧(jj z l[k].place≠0→fK s l=(z,jj z l[k].place)):=by
 have e:∀(z:jl) (c:av) (l:List av),fK z (c::l)=if jj z c.place=0 then fK (z.put c.place c.word) l else (z,jj z c.place):=fun _ _ _=>rfl
 rw [List.drop_eq_getElem_cons hk,e] at hp
 exact⟨fun h=>by rw [hp,if_pos h],fun h=>by rw [hp,if_neg h]⟩
theorem wE [i:au L eK b s C][r:∀A,Rd w0 (C A) v bk 2 l](hl:l.length≤1000000)(hK:G w0 (C (ob eK b (lG s l).1)) (K (i64 (lG s l).2))):G w0 L (CP Tryz.prog Y4 [ptr b 0,v] K):=by
 refine G.okL (b:=b) (s:=s) fun hs=>?_
 have ho:=hs.ok s.r (by simp)
 have h6:=hs.six
 have h1:=hs.len
 have h2:=hs.hi
 rw [eY] at h1
 refine i.useM (fun M hM hK=>?_) hK
 have r':=Rd.frame hM r
 refine vH ?_
 unfold nV
 refine tD fun w=>?_
 rw [show held 96 0 96=96 from rfl]
 refine G.take1 eK b ?_
 rw [nh]
 rintro vv p c us ⟨hv,_,hu⟩
 have hul:=IF hu
 refine Ro (by omega) ?_
 refine G.take1 gm p ?_
 rw [f9]
 intro v2 hv2
 refine gg ?_
 refine ib (cs:=s.r.c) (most:=96) fun u hu2=>?_
 repeat' (first | (with_reducible refine G.joini0 ?_) | (with_reducible refine G.joini1 ?_) | (with_reducible refine G.drew ?_) | (simp (maxSteps:=2000000) only [↓RG,RP,RB,BEq.rfl,Int.reduceEq,Int.reduceLT,Int.reduceLE,Nat.reduceEqDiff]))
 refine jt (cs:=[]) (most:=96) (l:=s.r.c) (by omega) ?_
 rw [zn (most:=96) (cs:=[]) ho.places (by simp;omega),ho.self]
 refine eQ p c s.r hv2 ?_
 refine i9 b s us p c rfl ⟨hv,hs,hu⟩ ?_
 refine gg ?_
 refine G.loop1 (σ:=Nat×jl) (fun z=>i64 z.1) (fun z=>ob eK b z.2::sl bk u s.r.c::ob fY w (96,s.r.c)::M) (fun z=>z.1≤l.length∧fK s l=fK z.2 (l.drop z.1)∧z.2.most=s.most∧z.2.up=s.up∧z.2.r.f=s.r.f) (fun z=>l.length-z.1) (0,s) rfl rfl ⟨by simp,by simp,rfl,rfl,rfl⟩ ?_
 rintro⟨k,z⟩ ⟨hk,hp,e1,e2,e3⟩ J hJ
 simp only at hk hp e1 e2 e3 hJ ⊢
 refine gr ?_
 refine G.cond (fun h=>?_) (fun h=>?_)
 ·have hk2:k<l.length:=by simpa using h
  have e:=cw hk2
  obtain⟨p1,p2⟩:=Ll hk2 hp
  refine gr ?_
  refine G.new fun q=>?_
  refine gr ?_
  refine o7 (s:=z) ?_
  refine gr ?_
  refine G.cond (fun h=>?_) (fun h=>?_)
  ·have h0:jj z l[k].place≠0:=by simpa using h
   have p3:=p2 h0
   rw [if_neg h0]
   have h4:lG s l=(s,jj z l[k].place):=by
    unfold lG;rw [p3];simp [h0]
   rw [h4] at hK
   refine G.take1 eK b ?_
   rw [nh]
   rintro v4 p4 c4 us4 ⟨hv4,_,hu4⟩
   have hul4:=IF hu4
   rw [e2] at hul4 hu4
   refine Ro (by omega) ?_
   refine G.take1 gm p4 ?_
   rw [f9]
   intro v5 hv5
   rw [e3]
   rw [e1]
   refine gg ?_
   refine eQ p4 w ⟨s.r.c,s.r.f⟩ hv5 ?_
   refine i9 b s us4 p4 w rfl ⟨hv4,hs,hu4⟩ ?_
   exact hK.sub
  ·have h0:jj z l[k].place=0:=by simpa using h
   rw [if_pos h0]
   refine gr ?_
   rw [dx (by omega)]
   exact(hJ (k+1,z.put l[k].place l[k].word) ⟨hk2,p1 h0,e1,e2,e3⟩ (by simp;omega)).sub
 ·have:l.drop k=[]:=List.drop_eq_nil_of_le (by simpa using h)
  rw [this] at hp
  have h4:lG s l=(z,0):=by
   unfold lG;rw [hp];simp [fK]
  rw [h4] at hK
  exact hK.sub
end
end Go.Proofs.YtoealglbimbbmaaGreatDoor.S
