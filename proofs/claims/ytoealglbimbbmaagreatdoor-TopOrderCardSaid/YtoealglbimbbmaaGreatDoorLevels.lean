import Derived.Test.YtoealglbimbbmaaGreatDoorWrites
import Derived.Test.YtoealglbimbbmaaGreatDoorBack
import Derived.Test.YtoealglbimbbmaaGreatDoorSBack
namespace Go.Proofs.YtoealglbimbbmaaGreatDoor.S
open Go Go.Proofs
set_option linter.unusedVariables false
set_option linter.unusedSimpArgs false
structure Lv where
 c:List au
 f:List Int
structure kf where
 most:Int
 r:Lv
 up:List Lv
def qE:List Lv→Int→Option Int
 | [],_=>none
 | r::l,a=>match fk r.c a with | some x=>some x | none=>qE l a
def eR (l:List Lv):Nat:=(l.map (·.c.length)).sum
def fV (l:List Lv):List Int:=l.flatMap (·.f)
structure uy (s:kf):Prop where
 lo:0≤s.most
 hi:s.most≤96
 len:(eR (s.r::s.up):Int)≤s.most
 six:s.up.length<6
 ok:∀r∈s.r::s.up,Ho r.c
abbrev kf.room (s:kf):Int:=s.most-(eR (s.r::s.up):Int)
def lJ (s:kf)(a:Int):Int:=if yo a then (if (je s.r.c a).isSome then 0 else if s.room=0 then 5 else 0) else 2
def kf.put (s:kf)(a x:Int):kf:=⟨s.most,⟨i4 s.r.c a x,s.r.f⟩,s.up⟩
def jm:kf→List au→kf×Int
 | s,[]=>(s,0)
 | s,c::l=>if lJ s c.place=0 then jm (s.put c.place c.word) l else (s,lJ s c.place)
def pK (s:kf)(l:List au):kf×Int:=if (jm s l).2=0 then ((jm s l).1,0) else (s,(jm s l).2)
def mG (s:kf):kf×Int:=match s.up with
 | []=>(s,10)
 | q::up=>(⟨s.most,⟨iD q.c s.r.c,q.f++s.r.f⟩,up⟩,0)
def fZ (s:kf):kf×Int:=match s.up with
 | []=>(s,10)
 | q::up=>(⟨s.most,q,up⟩,0)
def mg (s:kf):kf×Int:=if 6≤s.up.length+1 then (s,9) else (⟨s.most,⟨[],[]⟩,s.r::s.up⟩,0)
def kf.free (s:kf)(n:Int):kf:=⟨s.most,⟨s.r.c,s.r.f++[n]⟩,s.up⟩
def kf.cells (s:kf):List au:=s.up.foldl (fun out q=>iD q.c out) s.r.c
def kf.frees (s:kf):List Int:=fV (s.up.reverse++[s.r])
theorem eu {r:Lv}{l:List Lv}:eR (r::l)=r.c.length+eR l:=by simp [eR]
theorem nU {l l':List Lv}:eR (l++l')=eR l+eR l':=by simp [eR]
theorem F0 {l:List Lv}:eR l.reverse=eR l:=by
 induction l with
 | nil=>rfl
 | cons r l ih=>rw [List.reverse_cons,nU,ih,eu,eu];simp [eR];omega
theorem ky {l l':List Lv}:fV (l++l')=fV l++fV l':=by simp [fV]
theorem Ny {s:kf}{a:Int}(h:lJ s a=0):yo a=true∧((je s.r.c a).isSome=true∨s.room≠0):=by
 unfold lJ at h
 split at h
 ·rename_i ha
  refine⟨ha,?_⟩
  split at h
  ·rename_i hs;exact .inl hs
  ·split at h
   ·cases h
   ·rename_i hr;exact .inr hr
 ·cases h
theorem uy.room {s:kf}(h:uy s):0≤s.room:=by have:=h.len;unfold kf.room;omega
theorem uy.put {s:kf}{a x:Int}(h:uy s)(he:lJ s a=0):uy (s.put a x):=by
 obtain⟨ha,hr⟩:=Ny he
 have hl:=h.len
 refine⟨h.lo,h.hi,?_,h.six,fun r hr'=>?_⟩
 ·simp only [kf.put,eu,xq] at hl ⊢
  rcases hr with hr | hr
  ·rw [if_pos hr];exact hl
  ·have:s.room=s.most-((s.r.c.length+eR s.up:Nat):Int):=by unfold kf.room;rw [eu]
   split <;> omega
 ·rcases List.mem_cons.1 hr' with e | hr'
  ·rw [e];exact(h.ok _ (by simp)).put ha
  ·exact h.ok _ (List.mem_cons_of_mem _ hr')
theorem uy.puts:∀{l:List au}{s:kf},uy s→uy (jm s l).1
 | [],s,h=>h
 | c::l,s,h=>by
  unfold jm
  split
  ·rename_i h0;exact uy.puts (h.put h0)
  ·exact h
theorem uy.take {s:kf}{l:List au}(h:uy s):uy (pK s l).1:=by
 unfold pK
 split
 ·exact h.puts
 ·exact h
theorem uy.new {n:Int}:uy ⟨held n 0 96,⟨[],[]⟩,[]⟩:=by
 have hb:=ft (n:=n) (show (0:Int)≤96 by omega)
 refine⟨hb.1,hb.2,by simpa [eR] using hb.1,by simp,fun r hr=>?_⟩
 have:r=⟨[],[]⟩:=by simpa using hr
 rw [this];exact .nil
theorem uy.opened {s:kf}(h:uy s)(h6:¬6≤s.up.length+1):uy ⟨s.most,⟨[],[]⟩,s.r::s.up⟩:=by
 refine⟨h.lo,h.hi,?_,by simp;omega,fun r hr=>?_⟩
 ·have:=h.len
  rw [eu];simpa using this
 ·rcases List.mem_cons.1 hr with e | hr
  ·rw [e];exact .nil
  ·exact h.ok _ hr
theorem uy.dropped {s:kf}{q:Lv}{up:List Lv}(h:uy s)(e:s.up=q::up):uy ⟨s.most,q,up⟩:=by
 have hl:=h.len
 have h6:=h.six
 have ho:=h.ok
 rw [e] at hl h6 ho
 refine⟨h.lo,h.hi,?_,by simp at h6 ⊢;omega,fun r hr=>ho _ (List.mem_cons_of_mem _ hr)⟩
 rw [eu] at hl
 simp only
 omega
theorem uy.kept {s:kf}{q:Lv}{up:List Lv}(h:uy s)(e:s.up=q::up):uy ⟨s.most,⟨iD q.c s.r.c,q.f++s.r.f⟩,up⟩:=by
 have hl:=h.len
 have h6:=h.six
 have ho:=h.ok
 rw [e] at hl h6 ho
 have hp:=Bz (cs:=q.c) (l:=s.r.c)
 refine⟨h.lo,h.hi,?_,by simp at h6 ⊢;omega,fun r hr=>?_⟩
 ·simp only [eu] at hl ⊢
  omega
 ·rcases List.mem_cons.1 hr with e2 | hr
  ·rw [e2];exact(ho q (by simp)).puts (ho s.r (by simp)).places
  ·exact ho _ (by simp [hr])
theorem uy.free {s:kf}{n:Int}(h:uy s):uy (s.free n):=by
 refine⟨h.lo,h.hi,?_,h.six,fun r hr=>?_⟩
 ·have:=h.len
  simpa [kf.free,eu] using this
 ·rcases List.mem_cons.1 hr with e | hr
  ·rw [e];exact h.ok s.r (by simp)
  ·exact h.ok _ (List.mem_cons_of_mem _ hr)
theorem EJ {a:Int}:∀{l:List Lv},(∀r∈l,fk r.c a=none)→qE l a=none
 | [],_=>rfl
 | r::l,h=>by unfold qE;rw [h r (by simp)];exact EJ fun q hq=>h q (by simp [hq])
theorem HS {a x:Int}{r:Lv}{l':List Lv}(hx:fk r.c a=some x):∀{l:List Lv},(∀r∈l,fk r.c a=none)→qE (l++r::l') a=some x
 | [],_=>by show qE (r::l') a=some x;unfold qE;rw [hx]
 | q::l,h=>by show qE (q::(l++r::l')) a=some x;unfold qE;rw [h q (by simp)];exact HS hx fun q hq=>h q (by simp [hq])
def Fc (out:List au)(r:Lv):List au:=(mc 96 (mc 96 [] r.c).1 out).1
theorem RM {out:List au}{r:Lv}(ho:Ho r.c)(hout:∀c∈out,yo c.place=true)(hl:r.c.length+out.length≤96):Fc out r=iD r.c out:=by
 unfold Fc
 rw [tG (most:=96) (cs:=[]) ho.places (by simp;omega),ho.self,tG hout (by show (r.c.length+out.length:Int)≤96;omega)]
theorem Hh.new {n:Int}:Hh (held n 0 96) []:=by
 have hb:=ft (n:=n) (show (0:Int)≤96 by omega)
 exact⟨hb.1,hb.2,by simpa using hb.1,.nil⟩
theorem Ry {out:List au}{r:Lv}:(Fc out r).length≤96:=by
 have h:Hh 96 (Fc out r):=(Hh.take (Hh.take (Hh.new (n:=96))))
 have:=h.len
 omega
theorem J7:∀{l:List Lv}{out:List au},(∀r∈l,Ho r.c)→(∀c∈out,yo c.place=true)→out.length+eR l≤96→l.foldl Fc out=l.foldl (fun out q=>iD q.c out) out
 | [],out,_,_,_=>rfl
 | r::l,out,h,ho,hl=>by
  rw [eu] at hl
  have hp:=Bz (cs:=r.c) (l:=out)
  rw [List.foldl_cons,List.foldl_cons,RM (h r (by simp)) ho (by omega)]
  exact J7 (fun q hq=>h q (by simp [hq])) ((h r (by simp)).puts ho).places (by omega)
theorem Qd {s:kf}(h:uy s):(s.r::s.up).foldl Fc []=s.cells:=by
 have hl:=h.len
 have hi:=h.hi
 have ho:=h.ok s.r (by simp)
 rw [J7 h.ok (by simp) (by simp;omega),List.foldl_cons]
 rfl
def f9 (b:Nat)(s:Nat×Lv):ay:=m3 fun v=>bk (ic (ar v [v])) (bk (bk (own b [ptr s.1 0,v]) (ob gk s.1 (96,s.2.c))) (sl bg v s.2.f))
def sf (b:Nat)(l:List (Nat×Nat×Lv)):ay:=da (l.map fun x=>ob f9 x.1 x.2)
abbrev ij (l:List (Nat×Nat×Lv)):List Nat:=l.map (·.1)
abbrev zS (l:List (Nat×Nat×Lv)):List Lv:=l.map (·.2.2)
def dx (b:Nat)(s:kf):ay:=m3 fun v=>m3 fun(l:List (Nat×Nat×Lv))=>bk (ic (ar v [v]∧uy s∧zS l=s.up.reverse++[s.r])) (bk (bk (own b [i64 s.most,v]) (sl gV v (ij l))) (ob sf b l))
section
variable {w0:bh}{L M:List ay}{K:KV}{F:World→Prop}{C:ay→List ay}{b p c k:Nat}{a x n:Int}{r:Lv}{s:kf}{l us:List (Nat×Nat×Lv)}{v:Value}
theorem Dq {l l':List (Nat×Nat×Lv)}:ij (l++l')=ij l++ij l':=List.map_append
theorem ER {l l':List (Nat×Nat×Lv)}:zS (l++l')=zS l++zS l':=List.map_append
theorem fE:G w0 (ob f9 p (c,r)::M) F=∀v,ar v [v]→G w0 (own p [ptr c 0,v]::ob gk c (96,r.c)::sl bg v r.f::M) F:=by
 rw [eZ,f9]
 simp only [qr,fb,fU]
theorem fa {v:Value}(p c:Nat)(r:Lv) [ez [own p [ptr c 0,v],ob gk c (96,r.c),sl bg v r.f] L M](hv:ar v [v])(H:G w0 (ob f9 p (c,r)::M) F):G w0 L F :=
 G.pickAll (As:=[own p [ptr c 0,v],ob gk c (96,r.c),sl bg v r.f]) (by rw [fE] at H;exact H v hv)
theorem Ln {α:Type}(f:α→ay):∀{l:List α}{k:Nat}{x:α},l[k]? = some x→da (l.map f)=da (f x::(l.eraseIdx k).map f)
 | [],k,x,h=>by simp at h
 | y::l,0,x,h=>by simp at h;subst h;rfl
 | y::l,k+1,x,h=>by
  have:=Ln f (l:=l) (k:=k) (x:=x) (by simpa using h)
  show bk (f y) (da (l.map f))=bk (f x) (bk (f y) (da ((l.eraseIdx k).map f)))
  rw [this,iP];rfl
theorem CD {p c:Nat}{r:Lv}(h:l[k]? = some (p,c,r)):G w0 (ob sf b l::M) F=G w0 (ob f9 p (c,r)::ob sf b (l.eraseIdx k)::M) F:=dm (by
 show bk (ob sf b l) (da M)=bk (ob f9 p (c,r)) (bk (ob sf b (l.eraseIdx k)) (da M))
 rw [eZ sf,eZ sf,sf,Ln _ h,←DZ];rfl)
theorem sU:G w0 (ob sf b (us++[(p,c,r)])::M) F=G w0 (ob f9 p (c,r)::ob sf b us::M) F:=by
 rw [CD (k:=us.length) (p:=p) (c:=c) (r:=r) (by simp)]
 congr 3
 simp [List.eraseIdx_append_of_length_le]
theorem Kc (b:Nat)(us:List (Nat×Nat×Lv))(p c:Nat)(r:Lv) [ez [ob f9 p (c,r),ob sf b us] L M](H:G w0 (ob sf b (us++[(p,c,r)])::M) F):G w0 L F :=
 G.pickAll (As:=[ob f9 p (c,r),ob sf b us]) (by rw [sU] at H;exact H)
theorem wx {p c:Nat}{r:Lv}(h:l[k]? = some (p,c,r)) [ez [ob f9 p (c,r),ob sf b (l.eraseIdx k)] L M](H:G w0 (ob sf b l::M) F):G w0 L F :=
 G.pickAll (As:=[ob f9 p (c,r),ob sf b (l.eraseIdx k)]) (by rw [CD h] at H;exact H)
theorem t7 {As Bs:List ay}:da (As++Bs)=bk (da As) (da Bs):=by
 induction As with
 | nil=>exact(qN _).symm
 | cons A As ih=>show bk A (da (As++Bs))=bk (bk A (da As)) (da Bs);rw [ih,DZ]
theorem RE {As:List ay}(H:G w0 (As++ob sf b []::M) F):G w0 (As++M) F:=by
 rw [dm (L':=As++M)] at H
 ·exact H
 ·rw [t7,t7]
  show bk _ (bk (ob sf b []) _)=_
  rw [eZ sf]
  show bk _ (bk Lj _)=_
  rw [qN]
theorem gq:G w0 (ob dx b s::M) F=∀v l,(ar v [v]∧uy s∧zS l=s.up.reverse++[s.r])→G w0 (own b [i64 s.most,v]::sl gV v (ij l)::ob sf b l::M) F:=by
 rw [eZ,dx]
 simp only [qr,fb,fU]
theorem hN:G w0 (ob dx b s::M) F=∀v p c us,(ar v [v]∧uy s∧zS us=s.up.reverse)→G w0 (own b [i64 s.most,v]::sl gV v (ij us++[p])::ob f9 p (c,s.r)::ob sf b us::M) F:=by
 rw [gq]
 have e:∀v us p c,G w0 (own b [i64 s.most,v]::sl gV v (ij (us++[(p,c,s.r)]))::ob sf b (us++[(p,c,s.r)])::M) F=G w0 (own b [i64 s.most,v]::sl gV v (ij us++[p])::ob f9 p (c,s.r)::ob sf b us::M) F:=fun v us p c=>by
  rw [E5,sU,Dq]
  apply dm
  show bk _ (bk _ (bk _ (bk _ _)))=bk _ (bk _ (bk _ (bk _ _)))
  rw [iP (ob sf b us),iP (ob sf b us),iP (ob f9 p (c,s.r)),iP (ob f9 p (c,s.r))]
  rfl
 apply propext
 constructor
 ·rintro H v p c us ⟨h1,h2,h3⟩
  rw [←e]
  exact H v (us++[(p,c,s.r)]) ⟨h1,h2,by rw [ER,h3];rfl⟩
 ·rintro H v l ⟨h1,h2,h3⟩
  obtain⟨us,y,hl,h4,h5⟩:=List.map_eq_append_iff.1 h3
  obtain⟨z,zs,rfl,h6,h7⟩:=List.map_eq_cons_iff.1 h5
  have:zs=[]:=by simpa using h7
  subst this
  obtain⟨p,c,q⟩:=z
  simp only at h6
  subst h6
  subst hl
  rw [e]
  exact H v p c us ⟨h1,h2,h4⟩
theorem fl {v:Value}{xs:List Nat}(b:Nat)(s:kf)(us:List (Nat×Nat×Lv))(p c:Nat) [ez [own b [i64 s.most,v],sl gV v xs,ob f9 p (c,s.r),ob sf b us] L M](hx:xs=ij us++[p])(h:ar v [v]∧uy s∧zS us=s.up.reverse)(H:G w0 (ob dx b s::M) F):G w0 L F :=
 G.pickAll (As:=[own b [i64 s.most,v],sl gV v xs,ob f9 p (c,s.r),ob sf b us]) (by rw [hN] at H;subst hx;exact H v p c us h)
theorem G.okL [i:aq L dx b s C](h:uy s→G w0 L F):G w0 L F:=by
 by_cases hw:uy s
 ·exact h hw
 ·refine i.ro (F':=fun _=>True) (fun M _=>?_) (fun _ _=>trivial)
  rw [gq]
  exact fun v l hv=>absurd hv.2.1 hw
theorem zI {up:List Lv}(h:zS us=up.reverse):us.length=up.length:=by
 have:=congrArg List.length h
 simpa using this
theorem wN (hK:∀p c,G w0 (ob f9 p (c,⟨[],[]⟩)::L) (K (ptr p 0))):G w0 L (CP Tryz.prog Fn.levels_fresh [] K):=by
 refine FE ?_
 unfold wu
 refine tK fun c=>?_
 rw [show held 96 0 96=96 from rfl]
 refine gr ?_
 refine G.nilsl bg ?_
 refine G.box fun p=>?_
 refine fa (v:=.slice none 0 0) p c ⟨[],[]⟩ be ?_
 exact hK p c
theorem A1 {n:Int}(hK:∀b,G w0 (ob dx b ⟨held n 0 96,⟨[],[]⟩,[]⟩::L) (K (ptr b 0))):G w0 L (CP Tryz.prog Fn.levels_New [i64 n] K):=by
 refine Ie ?_
 unfold A5
 refine gr ?_
 have e3:(if (if (96:Int)<n then (96:Int) else n) > 0 then (if (96:Int)<n then (96:Int) else n) else 0)=held n 0 96:=by
  unfold held;split <;> split <;> split <;> (try split) <;> omega
 rw [e3]
 refine wN fun p c=>?_
 refine G.build gV [p] rfl (by simp) rfl fun v hv=>?_
 refine gr ?_
 refine G.box fun b=>?_
 have h:=hK b
 rw [hN] at h
 have h2:=h v p c [] ⟨hv,uy.new,rfl⟩
 exact RE (b:=b) (As:=[own b [i64 (held n 0 96),v],sl gV v [p],ob f9 p (c,⟨[],[]⟩)]) h2
theorem Ob (hl:us.length≤1000000)(hK:G w0 (own b [i64 n,v]::sl gV v (ij us++[p])::M) (K (ptr p 0))):G w0 (own b [i64 n,v]::sl gV v (ij us++[p])::M) (CP Tryz.prog Fn.levels_Levels_in [ptr b 0] K):=by
 refine zZ ?_
 unfold qR
 have e:eU (ij us++[p]) us.length p:=⟨by simp⟩
 refine G.drew ?_
 refine gr ?_
 have w1:IntKind.wrap .i64 (((ij us++[p]).length:Nat)-1:Int)=(us.length:Int):=by
  simp only [List.length_append,List.length_map,List.length_singleton]
  rw [iA (by omega) (by omega)];omega
 rw [w1]
 refine gr ?_
 exact hK
theorem w9 [i:aq L dx b s C](hK:G w0 (C (ob dx b (mg s).1)) (K (i64 (mg s).2))):G w0 L (CP Tryz.prog Fn.levels_Levels_Open [ptr b 0] K):=by
 refine i.use (fun M hK=>?_) hK
 rw [hN]
 rintro v p c us ⟨hv,hs,hu⟩
 have hul:=zI hu
 have h6':=hs.six
 have hll:(ij us++[p]).length=s.up.length+1:=by simp [hul]
 refine vP ?_
 unfold o8
 unfold mg at hK
 by_cases h6:6≤s.up.length+1
 ·rw [if_pos h6,hN] at hK
  have h7:(6:Int)≤((s.up.length+1:Nat):Int):=by omega
  refine eY (an hll h7) ?_
  exact hK v p c us ⟨hv,hs,hu⟩
 ·rw [if_neg h6] at hK
  have h7:¬(6:Int)≤((s.up.length+1:Nat):Int):=by omega
  repeat' (first | (with_reducible refine G.joini0 ?_) | (with_reducible refine G.joini1 ?_) | (with_reducible refine G.drew ?_) | (simp (maxSteps:=2000000) only [↓RG,RP,RB,BEq.rfl,Int.reduceEq,Int.reduceLT,Int.reduceLE,Nat.reduceEqDiff,hll,h7]))
  refine wN fun q d=>?_
  refine gg ?_
  refine G.build gV [q] rfl (by simp) rfl fun u hu2=>?_
  refine gg ?_
  refine G.append (by rw [hll];simp;omega) (by rw [hll];simp [maxLen];omega) fun u2 hu3=>?_
  refine gg ?_
  refine Kc b us p c s.r ?_
  refine fl b ⟨s.most,⟨[],[]⟩,s.r::s.up⟩ (us++[(p,c,s.r)]) q d (show ij us++[p]++[q]=ij (us++[(p,c,s.r)])++[q] by simp) ⟨hu3,hs.opened h6,by simp [hu]⟩ ?_
  exact hK.sub
theorem HA {p' c':Nat}{q:Lv}{us':List (Nat×Nat×Lv)}(hl:us'.length≤1000000)(hK:∀v',ar v' [v']→G w0 (own b [i64 n,v']::sl gV v' (ij us'++[p'])::M) (K (i64 0))) :
  G w0 (own b [i64 n,v]::sl gV v (ij (us'++[(p',c',q)])++[p])::M) (CP Tryz.prog Fn.levels_Levels_Drop [ptr b 0] K):=by
 refine oq ?_
 unfold ju
 have hll:(ij (us'++[(p',c',q)])++[p]).length=us'.length+2:=by simp
 have h1:¬(((us'.length+2:Nat):Int)=1):=by omega
 have h2:IntKind.wrap .i64 (((us'.length+2:Nat):Int)-1)=((us'.length+1:Nat):Int):=by rw [iA (by omega) (by omega)];omega
 repeat' (first | (with_reducible refine G.joini0 ?_) | (with_reducible refine G.joini1 ?_) | (with_reducible refine G.drew ?_) | (simp (maxSteps:=2000000) only [↓RG,RP,RB,BEq.rfl,Int.reduceEq,Int.reduceLT,Int.reduceLE,Nat.reduceEqDiff,hll,h1,h2]))
 refine G.take (by rw [hll];omega) fun u hu=>?_
 have e:(ij (us'++[(p',c',q)])++[p]).take (us'.length+1)=ij us'++[p']:=by
  rw [List.take_append_of_le_length (by simp),List.take_of_length_le (by simp)];simp
 rw [e]
 refine gg ?_
 exact hK u hu
theorem D5 {v:Value}{M:List ay}(hK:G w0 (own b [i64 n,v]::sl gV v (ij []++[p])::M) (K (i64 10))):G w0 (own b [i64 n,v]::sl gV v (ij []++[p])::M) (CP Tryz.prog Fn.levels_Levels_Drop [ptr b 0] K):=by
 refine oq ?_
 unfold ju
 have hll:(ij []++[p]).length=1:=by simp
 have h1:((1:Nat):Int)=1:=rfl
 refine eY (an hll h1) ?_
 exact hK
theorem MF {q:Lv}{up:List Lv}(h:zS us=(q::up).reverse):∃us' p' c',us=us'++[(p',c',q)]∧zS us'=up.reverse:=by
 rw [List.reverse_cons] at h
 obtain⟨us',y,hl,h4,h5⟩:=List.map_eq_append_iff.1 h
 obtain⟨z,zs,rfl,h6,h7⟩:=List.map_eq_cons_iff.1 h5
 have:zs=[]:=by simpa using h7
 subst this
 obtain⟨p,c,q'⟩:=z
 simp only at h6
 subst h6
 exact⟨us',p,c,hl,h4⟩
theorem vF [i:aq L dx b s C](hK:G w0 (C (ob dx b (fZ s).1)) (K (i64 (fZ s).2))):G w0 L (CP Tryz.prog Fn.levels_Levels_Drop [ptr b 0] K):=by
 refine i.use (fun M hK=>?_) hK
 rw [hN]
 rintro v p c us ⟨hv,hs,hu⟩
 have hul:=zI hu
 have h6:=hs.six
 unfold fZ at hK
 cases e:s.up with
 | nil =>
  rw [e] at hK hu
  have:us=[]:=by simpa using hu
  subst this
  refine D5 ?_
  refine fl b s [] p c rfl ⟨hv,hs,by rw [e];rfl⟩ ?_
  exact hK
 | cons q up =>
  rw [e] at hK hu
  obtain⟨us',p',c',rfl,hu'⟩:=MF hu
  simp only [List.length_append,List.length_singleton] at hul
  refine HA (by omega) fun v' hv'=>?_
  refine G.take1 sf b ?_
  rw [sU]
  refine fl b ⟨s.most,q,up⟩ us' p' c' rfl ⟨hv',hs.dropped e,hu'⟩ ?_
  exact hK.sub
theorem xj [i:aq L dx b s C](hf:s.r.f.length≤1000000)(hK:G w0 (C (ob dx b (s.free n))) (K (.tuple #[]))):G w0 L (CP Tryz.prog Fn.levels_Levels_Free [ptr b 0,i64 n] K):=by
 refine i.use (fun M hK=>?_) hK
 rw [hN]
 rintro v p c us ⟨hv,hs,hu⟩
 have hul:=zI hu
 have h6:=hs.six
 refine xm ?_
 unfold oD
 refine Ob (by omega) ?_
 refine G.take1 f9 p ?_
 rw [fE]
 intro v2 hv2
 refine gr ?_
 refine G.append1 (E:=bg) rfl rfl (by decide) (by omega) (by simp only [maxLen];omega) fun u hu2=>?_
 refine gr ?_
 refine fa p c ⟨s.r.c,s.r.f++[n]⟩ hu2 ?_
 refine fl b ⟨s.most,⟨s.r.c,s.r.f++[n]⟩,s.up⟩ us p c rfl ⟨hv,hs.free,hu⟩ ?_
 exact hK
theorem wS [i:aq L dx b s C](hf:s.frees.length≤1000000)(hK:G w0 (C (ob dx b (mG s).1)) (K (i64 (mG s).2))):G w0 L (CP Tryz.prog Fn.levels_Levels_Keep [ptr b 0] K):=by
 refine i.use (fun M hK=>?_) hK
 rw [hN]
 rintro v p c us ⟨hv,hs,hu⟩
 have hul:=zI hu
 have h6:=hs.six
 refine w4 ?_
 unfold oV
 refine Ob (by omega) ?_
 unfold mG at hK
 cases e:s.up with
 | nil =>
  rw [e] at hK hu
  have:us=[]:=by simpa using hu
  subst this
  refine D5 ?_
  refine gr ?_
  refine fl b s [] p c rfl ⟨hv,hs,by rw [e];rfl⟩ ?_
  exact hK
 | cons q up =>
  rw [e] at hK hu
  obtain⟨us',p',c',rfl,hu'⟩:=MF hu
  simp only [List.length_append,List.length_singleton] at hul
  have hf2:q.f.length+s.r.f.length≤1000000:=by
   unfold kf.frees at hf
   rw [e,List.reverse_cons,ky,ky] at hf
   simp only [fV,List.flatMap_cons,List.flatMap_nil,List.append_nil,List.length_append] at hf
   omega
  have hl:=hs.len
  have hi:=hs.hi
  have ho:=hs.ok s.r (by simp)
  rw [e,eu,eu] at hl
  refine HA (by omega) fun v' hv'=>?_
  refine G.take1 sf b ?_
  rw [sU]
  refine G.take1 f9 p ?_
  rw [fE]
  intro v2 hv2
  refine G.take1 f9 p' ?_
  rw [fE]
  intro v3 hv3
  refine G.take1 (Pv gV) v' ?_
  refine G.take1 oM b ?_
  refine gr ?_
  refine Ob (by omega) ?_
  repeat' (first | (with_reducible refine G.joini0 ?_) | (with_reducible refine G.joini1 ?_) | (with_reducible refine G.drew ?_) | (simp (maxSteps:=2000000) only [↓RG,RP,RB,BEq.rfl,Int.reduceEq,Int.reduceLT,Int.reduceLE,Nat.reduceEqDiff]))
  refine G.append (xs:=q.f) (ys:=s.r.f) (by omega) (by simp only [maxLen];omega) fun u hu2=>?_
  repeat' (first | (with_reducible refine G.joini0 ?_) | (with_reducible refine G.joini1 ?_) | (with_reducible refine G.drew ?_) | (simp (maxSteps:=2000000) only [↓RG,RP,RB,BEq.rfl,Int.reduceEq,Int.reduceLT,Int.reduceLE,Nat.reduceEqDiff]))
  refine gc (cs:=s.r.c) (most:=96) fun u2 hu3=>?_
  refine gg ?_
  refine gX (cs:=q.c) (most:=96) (l:=s.r.c) (by omega) ?_
  rw [tG ho.places (by omega)]
  refine gg ?_
  refine fa p' c' ⟨iD q.c s.r.c,q.f++s.r.f⟩ hu2 ?_
  refine fl b ⟨s.most,⟨iD q.c s.r.c,q.f++s.r.f⟩,up⟩ us' p' c' rfl ⟨hv',hs.kept e,hu'⟩ ?_
  exact hK.sub
end
end Go.Proofs.YtoealglbimbbmaaGreatDoor.S
namespace Go.Proofs.YtoealglbimbbmaaGreatDoor.S
open Go Go.Proofs
set_option linter.unusedVariables false
set_option linter.unusedSimpArgs false
theorem JA {l:List Lv}{k:Nat}(hk:k<l.length):eR (l.take (k+1))=eR (l.take k)+l[k].c.length:=by
 rw [List.take_add_one,List.getElem?_eq_getElem hk,nU]
 simp [eR]
theorem vY {l:List Lv}{k:Nat}:eR (l.take k)≤eR l:=by
 have:eR (l.take k++l.drop k)=eR (l.take k)+eR (l.drop k):=nU
 rw [List.take_append_drop] at this
 omega
theorem C1 {l:List Lv}{k:Nat}(hk:k<l.length):fV (l.take (k+1))=fV (l.take k)++l[k].f:=by
 rw [List.take_add_one,List.getElem?_eq_getElem hk,ky]
 simp [fV]
theorem E8 {l:List Lv}{k:Nat}(hk:k<l.length):(fV (l.take k)).length+l[k].f.length≤(fV l).length:=by
 have:fV (l.take (k+1)++l.drop (k+1))=fV (l.take (k+1))++fV (l.drop (k+1)):=ky
 rw [List.take_append_drop,C1 hk] at this
 rw [this]
 simp
section
variable {w0:bh}{L M:List ay}{K:KV}{F:World→Prop}{C:ay→List ay}{b p c k:Nat}{a x n:Int}{r:Lv}{s:kf}{l us:List (Nat×Nat×Lv)}{v:Value}{xs:List Nat}
theorem RI {k:Nat}(hk:k<l.length):∃p c,l[k]? = some (p,c,l[k].2.2)∧eU (ij l) k p∧∃h:k<(zS l).length,(zS l)[k]=l[k].2.2 :=
 ⟨l[k].1,l[k].2.1,List.getElem?_eq_getElem hk,⟨by simp [hk]⟩,by simpa using hk,by simp⟩
theorem Kg (hx:xs=ij l)(hl:l.length≤1000000)(h0:0≤n)(h1:n≤96)(ht:eR (zS l)≤96)(hK:G w0 (own b [i64 n,v]::sl gV v xs::ob sf b l::M) (K (i64 (n-eR (zS l))))) :
  G w0 (own b [i64 n,v]::sl gV v xs::ob sf b l::M) (CP Tryz.prog Fn.levels_Levels_Room [ptr b 0] K):=by
 subst hx
 refine vS ?_
 unfold oT
 have hll:(ij l).length=l.length:=by simp
 refine eY hll ?_
 refine G.loop2 (fun k:Nat=>i64 (n-eR ((zS l).take k))) (fun k:Nat=>i64 k) (fun _=>own b [i64 n,v]::sl gV v (ij l)::ob sf b l::M) (fun k=>k≤l.length) (fun k=>l.length-k) 0 (by simp [eR]) rfl rfl (by simp) ?_
 intro k hk J hJ
 refine gr ?_
 refine G.cond (fun h=>?_) (fun h=>?_)
 ·have hk2:k<l.length:=by simpa using h
  obtain⟨p,c,hx,e,hk3,e2⟩:=RI hk2
  have t1:=JA hk3
  have t2:=vY (l:=zS l) (k:=k)
  have t3:=vY (l:=zS l) (k:=k+1)
  rw [e2] at t1
  generalize l[k].2.2=r at hx t1
  refine gr ?_
  refine G.take1 sf b ?_
  rw [CD hx,fE]
  intro v2 hv2
  refine gr ?_
  refine yu (cs:=r.c) (most:=96) ?_
  refine gr ?_
  rw [di (by omega),iA (by omega) (by omega)]
  refine fa p c r hv2 ?_
  refine wx (b:=b) hx ?_
  have h:=hJ (k+1) hk2 (by omega)
  rw [t1] at h
  rw [show n-(eR (List.take k (zS l)):Int)-r.c.length=n-((eR (List.take k (zS l))+r.c.length:Nat):Int) by omega]
  exact h.sub
 ·have:(zS l).take k=zS l:=List.take_of_length_le (by simpa using h)
  rw [this]
  exact hK
theorem uy.total {s:kf}(hs:uy s)(hl:zS l=s.up.reverse++[s.r]):eR (zS l)=eR (s.r::s.up):=by
 rw [hl,nU,F0,eu,eu];simp [eR];omega
theorem Pf {s:kf}(hl:zS l=s.up.reverse++[s.r]):l.length=s.up.length+1:=by
 have:=congrArg List.length hl
 simpa using this
theorem pL [i:aq L dx b s C](hK:G w0 (C (ob dx b (if lJ s a=0 then s.put a x else s))) (K (i64 (lJ s a)))):G w0 L (CP Tryz.prog Fn.levels_Levels_Put [ptr b 0,i64 a,u64 x] K):=by
 refine i.use (fun M hK=>?_) hK
 refine yp ?_
 unfold py
 refine gu ?_
 refine gr ?_
 refine G.cond (fun h=>?_) (fun h=>?_)
 ·have h0:lJ s a=2:=by unfold lJ;rw [if_neg];rw [Ax];simp at h;omega
  rw [h0] at hK
  exact hK
 ·have ha:yo a=true:=by rw [Ax];simp at h;omega
  rw [hN]
  rintro v p c us ⟨hv,hs,hu⟩
  have hul:=zI hu
  have h6:=hs.six
  have b1:=hs.lo
  have b2:=hs.hi
  have b3:=hs.len
  refine Ob (by omega) ?_
  refine G.take1 f9 p ?_
  rw [fE]
  intro v2 hv2
  refine gr ?_
  refine pB (cs:=s.r.c) (most:=96) ?_
  have hsome:=wE (cs:=s.r.c) (a:=a)
  cases hi:fk s.r.c a with
  | some y =>
   rw [hi] at hsome
   have h0:lJ s a=0:=by unfold lJ;rw [if_pos ha,hsome];rfl
   have h1:mr 96 s.r.c a=0:=by unfold mr;rw [if_pos ha,hsome];rfl
   rw [h0,if_pos rfl] at hK
   simp only [Fj,hi]
   refine gg ?_
   refine kl (cs:=s.r.c) (most:=96) ?_
   rw [h1,if_pos rfl]
   refine fa p c ⟨i4 s.r.c a x,s.r.f⟩ hv2 ?_
   refine fl b ⟨s.most,⟨i4 s.r.c a x,s.r.f⟩,s.up⟩ us p c rfl ⟨hv,hs.put h0,hu⟩ ?_
   exact hK
  | none =>
   rw [hi] at hsome
   have hsome:(je s.r.c a).isSome=false:=by simpa using hsome
   simp only [Fj,hi]
   refine gg ?_
   refine fa p c s.r hv2 ?_
   refine Kc b us p c s.r ?_
   refine G.take1 (Pv gV) v ?_
   refine G.take1 oM b ?_
   have hl:zS (us++[(p,c,s.r)])=s.up.reverse++[s.r]:=by rw [ER,hu];rfl
   have ht:=hs.total hl
   refine Kg (l:=us++[(p,c,s.r)]) (by rw [Dq];rfl) (by simp;omega) (by omega) (by omega) (by omega) ?_
   rw [ht]
   by_cases hr:s.room=0
   ·have h0:lJ s a=5:=by unfold lJ;rw [if_pos ha,hsome];simp [hr]
    have hr2:s.most-(eR (s.r::s.up):Int)=0:=hr
    rw [h0,if_neg (by decide)] at hK
    refine gf hr2 ?_
    refine G.take1 sf b ?_
    rw [sU]
    refine fl b s us p c rfl ⟨hv,hs,hu⟩ ?_
    exact hK
   ·have h0:lJ s a=0:=by unfold lJ;rw [if_pos ha,hsome];simp [hr]
    have hr2:¬s.most-(eR (s.r::s.up):Int)=0:=hr
    have hlen:s.r.c.length<96:=by rw [eu] at b3 hr2;omega
    have h1:mr 96 s.r.c a=0:=by unfold mr;rw [if_pos ha,hsome,if_neg (by decide),if_neg (by omega)]
    rw [h0,if_pos rfl] at hK
    refine gf hr2 ?_
    refine G.take1 sf b ?_
    rw [sU,fE]
    intro v3 hv3
    refine kl (cs:=s.r.c) (most:=96) ?_
    rw [h1,if_pos rfl]
    refine fa p c ⟨i4 s.r.c a x,s.r.f⟩ hv3 ?_
    refine fl b ⟨s.most,⟨i4 s.r.c a x,s.r.f⟩,s.up⟩ us p c rfl ⟨hv,hs.put h0,hu⟩ ?_
    exact hK
theorem vC [i:aq L dx b s C](hf:s.frees.length≤1000000)(hK:∀u,ar u [u]→G w0 (sl bg u s.frees::L) (K u)):G w0 L (CP Tryz.prog Fn.levels_Levels_Frees [ptr b 0] K):=by
 refine i.roN (fun M hK=>?_) hK
 rw [gq]
 rintro v l ⟨hv,hs,hl⟩
 have hll:(ij l).length=l.length:=by simp
 have h4:=hs.six
 have h5:=Pf hl
 unfold kf.frees at hf hK
 rw [←hl] at hf hK
 refine uU ?_
 unfold mI
 refine eY hll ?_
 refine G.nilsl bg ?_
 refine G.loop2 (σ:=Value×Nat) (fun z=>z.1) (fun z=>i64 z.2) (fun z=>sl bg z.1 (fV ((zS l).take z.2))::own b [i64 s.most,v]::sl gV v (ij l)::ob sf b l::M) (fun z=>z.2≤l.length∧ar z.1 [z.1]) (fun z=>l.length-z.2) (_,0) rfl rfl (by simp [fV]) ⟨by simp,be⟩ ?_
 rintro⟨u,k⟩ ⟨hk,hu⟩ J hJ
 simp only at hk hu hJ ⊢
 refine gr ?_
 refine G.cond (fun h=>?_) (fun h=>?_)
 ·have hk2:k<l.length:=by simpa using h
  obtain⟨p,c,hx,e,hk3,e2⟩:=RI hk2
  have t1:=C1 hk3
  have t2:=E8 hk3
  rw [e2] at t1 t2
  generalize l[k].2.2=r at hx t1 t2
  refine gr ?_
  refine G.take1 sf b ?_
  rw [CD hx,fE]
  intro v2 hv2
  refine gr ?_
  refine G.append (xs:=fV (List.take k (zS l))) (ys:=r.f) (by omega) (by simp only [maxLen];omega) fun u2 hu2=>?_
  refine gr ?_
  rw [di (by omega)]
  refine fa p c r hv2 ?_
  refine wx (b:=b) hx ?_
  have h:=hJ (u2,k+1) ⟨hk2,hu2⟩ (by simp;omega)
  simp only [t1] at h
  exact h.sub
 ·have:(zS l).take k=zS l:=List.take_of_length_le (by simpa using h)
  rw [this]
  have hK:=hK u hu
  rw [fA,gq] at hK
  exact(hK v l ⟨hv,hs,hl⟩).sub
def zO (l:List (Nat×Nat×Lv))(k:Nat):Lv:=match l[k]? with | some x=>x.2.2 | none=>⟨[],[]⟩
theorem MA {k:Nat}{p c:Nat}{r:Lv}(h:l[k]? = some (p,c,r)):zO l k=r:=by unfold zO;rw [h]
theorem Hi:(kB (ij l).length).map (fun i=>zO l i.1)=(zS l).reverse :=
 N9 (l:=zS l) (zO l) (by simp) fun i y h=>by
  unfold zO
  rw [List.getElem?_map] at h
  cases e:l[i]? with
  | none=>rw [e] at h;cases h
  | some z=>rw [e] at h;cases h;rfl
def IJ (s:kf)(a:Int):Value:=match qE (s.r::s.up) a with | some x=>.tuple #[u64 x,.bool true] | none=>.tuple #[u64 0,.bool false]
theorem yj [i:aq L dx b s C](hK:G w0 L (K (IJ s a))):G w0 L (CP Tryz.prog Fn.levels_Levels_Get [ptr b 0,i64 a] K):=by
 refine i.ro (fun M hK=>?_) hK
 refine yq ?_
 unfold im
 refine G.box fun x1=>?_
 refine G.new fun x2=>?_
 refine G.new fun x3=>?_
 refine G.take1 dx b ?_
 rw [gq]
 rintro v l ⟨hv,hs,hl⟩
 have hll:(ij l).length=l.length:=by simp
 have h4:=hs.six
 have h5:=Pf hl
 have hrev:(kB (ij l).length).map (fun i=>zO l i.1)=s.r::s.up:=by rw [Hi,hl];simp
 refine gr ?_
 refine fw ?_
 unfold dy
 refine G.box (cs:=[v]) fun d=>?_
 refine G.backP (v:=v) (rows:=ij l) (fun _=>own d [v]::own b [i64 s.most,v]::sl gV v (ij l)::ob sf b l::own x3 [.bool false]::own x2 [u64 0]::own x1 [i64 a]::M)
  (fun pre=>own d [v]::own b [i64 s.most,v]::sl gV v (ij l)::ob sf b l::own x3 [.bool true]::own x2 [u64 (match pre.getLast? with | some i=>(fk (zO l i.1).c a).getD 0 | none=>0)]::own x1 [i64 a]::M)
  (fun pre=>∀i∈pre,fk (zO l i.1).c a=none) (fun pre=>∃pre' i x,pre=pre'++[i]∧(∀i∈pre',fk (zO l i.1).c a=none)∧fk (zO l i.1).c a=some x)
  (by omega) (fun pre W H=>⟨H.own_mem.2.1,(H.drop.drop).sl_is⟩) rfl (by simp) (fun k m pre i J R hp hJ hR=>?_) (fun k m K' hp hk=>?_) (fun k m K' pre hpre hp hk=>?_)
 ·have hk2:i.1<l.length:=by have:=i.2;omega
  obtain⟨p,c,hx,e,hk3,e2⟩:=RI hk2
  have ep:(ij l)[i.1]=p:=by have:=e.eq;rw [List.getElem?_eq_getElem i.2] at this;exact Option.some.inj this
  generalize hr:l[i.1].2.2=r at hx
  have hat:=MA hx
  rw [ep]
  refine gg ?_
  refine G.take1 sf b ?_
  rw [CD hx,fE]
  intro v2 hv2
  refine gg ?_
  refine pB (cs:=r.c) (most:=96) ?_
  cases hi:fk r.c a with
  | some y =>
   simp only [Fj,hi]
   refine gg ?_
   refine fa p c r hv2 ?_
   refine wx (b:=b) hx ?_
   have h:=hR ⟨pre,i,y,rfl,hp,by rw [hat];exact hi⟩
   simp only [List.getLast?_append,List.getLast?_singleton,Option.some_or,hat,hi,Option.getD_some] at h
   exact h.sub
  | none =>
   simp only [Fj,hi]
   refine gg ?_
   refine fa p c r hv2 ?_
   refine wx (b:=b) hx ?_
   refine(hJ fun j hj=>?_).sub
   rcases List.mem_append.1 hj with h | h
   ·exact hp j h
   ·rw [List.mem_singleton.1 h,hat];exact hi
 ·have hn:qE (s.r::s.up) a=none:=by
   rw [←hrev]
   refine EJ fun q hq=>?_
   obtain⟨j,hj,rfl⟩:=List.mem_map.1 hq
   exact hp j hj
  simp only [IJ,hn] at hK
  refine gg ?_
  refine hk _ _ ?_
  rw [gq] at hK
  exact(hK v l ⟨hv,hs,hl⟩).sub
 ·obtain⟨pre',i,y,rfl,h1,h2⟩:=hp
  obtain⟨rest,hrest⟩:=hpre
  have hn:qE (s.r::s.up) a=some y:=by
   rw [←hrev,←hrest,List.append_assoc,List.map_append]
   refine HS h2 fun q hq=>?_
   obtain⟨j,hj,rfl⟩:=List.mem_map.1 hq
   exact h1 j hj
  simp only [IJ,hn] at hK
  simp only [List.getLast?_append,List.getLast?_singleton,Option.some_or,h2,Option.getD_some]
  refine gg ?_
  refine hk _ _ ?_
  rw [gq] at hK
  exact(hK v l ⟨hv,hs,hl⟩).sub
end
end Go.Proofs.YtoealglbimbbmaaGreatDoor.S
namespace Go.Proofs.YtoealglbimbbmaaGreatDoor.S
open Go Go.Proofs
set_option linter.unusedVariables false
set_option linter.unusedSimpArgs false
section
variable {w0:bh}{L M:List ay}{K:KV}{F:World→Prop}{C:ay→List ay}{b p c k:Nat}{a x n:Int}{r:Lv}{s:kf}{us:List (Nat×Nat×Lv)}{v:Value}{l:List au}
theorem D3 {α:Type}{E:jY α}(b:Nat)(xs:List α) [ez [own b [v],sl E v xs] L M](hv:ar v [v])(H:G w0 (ob (kq E) b xs::M) F):G w0 L F :=
 G.pickAll (As:=[own b [v],sl E v xs]) (by rw [eJ] at H;exact H v hv)
theorem R4 (l:List (Nat×Nat×Lv)){m:Nat}(pre:List (Fin m)):((pre.map fun i=>zO l i.1).foldl Fc []).length≤96:=by
 generalize pre.map (fun i=>zO l i.1)=z
 have:∀(z:List Lv) (out:List au),out.length≤96→(z.foldl Fc out).length≤96:=fun z=>by
  induction z with
  | nil=>exact fun out h=>h
  | cons r z ih=>exact fun out _=>ih _ Ry
 exact this z [] (by simp)
theorem uZ [i:aq L dx b s C](hK:∀u,ar u [u]→G w0 (sl bf u s.cells::L) (K u)):G w0 L (CP Tryz.prog Fn.levels_Levels_Cells [ptr b 0] K):=by
 refine i.roN (fun M hK=>?_) hK
 refine vu ?_
 unfold gH
 refine G.new fun x1=>?_
 refine G.take1 dx b ?_
 rw [gq]
 rintro v l ⟨hv,hs,hl⟩
 have hll:(ij l).length=l.length:=by simp
 have h4:=hs.six
 have h5:=Pf hl
 have hrev:(kB (ij l).length).map (fun i=>zO l i.1)=s.r::s.up:=by rw [Hi,hl];simp
 refine G.nilsl bf ?_
 refine D3 (E:=bf) (v:=.slice none 0 0) x1 [] be ?_
 refine gr ?_
 refine fw ?_
 unfold dy
 refine G.box (cs:=[v]) fun d=>?_
 refine G.backP (v:=v) (rows:=ij l) (fun pre=>own d [v]::ob (kq bf) x1 ((pre.map fun i=>zO l i.1).foldl Fc [])::own b [i64 s.most,v]::sl gV v (ij l)::ob sf b l::M)
  (fun pre=>[]) (fun pre=>True) (fun pre=>False)
  (by omega) (fun pre W H=>⟨H.own_mem.2.1,(H.drop.drop.drop).sl_is⟩) rfl trivial (fun k m pre i J R _ hJ hR=>?_) (fun k m K' _ hk=>?_) (fun k m K' pre hpre hp hk=>hp.elim)
 ·have hk2:i.1<l.length:=by have:=i.2;omega
  obtain⟨p,c,hx,e,hk3,e2⟩:=RI hk2
  have ep:(ij l)[i.1]=p:=by have:=e.eq;rw [List.getElem?_eq_getElem i.2] at this;exact Option.some.inj this
  generalize hr:l[i.1].2.2=r at hx
  have hat:=MA hx
  have hle:=R4 l pre
  have hJ:=hJ trivial
  rw [List.map_append,List.foldl_append] at hJ
  simp only [List.map_cons,List.map_nil,List.foldl_cons,List.foldl_nil,hat] at hJ
  generalize (pre.map fun i=>zO l i.1).foldl Fc []=out at hle hJ ⊢
  rw [show Fc out r=(mc 96 (mc 96 [] r.c).1 out).1 from rfl] at hJ
  rw [ep]
  refine tK fun w=>?_
  rw [show held 96 0 96=96 from rfl]
  refine gg ?_
  refine G.take1 sf b ?_
  rw [CD hx,fE]
  intro v2 hv2
  refine G.take1 (kq bf) x1 ?_
  rw [eJ]
  intro v3 hv3
  refine G.okW (b:=c) (most:=96) (cs:=r.c) fun hw=>?_
  have hrl:(r.c.length:Int)≤96:=hw.len
  refine gg ?_
  refine gc (cs:=r.c) (most:=96) fun u hu=>?_
  repeat' (first | (with_reducible refine G.joini0 ?_) | (with_reducible refine G.joini1 ?_) | (with_reducible refine G.drew ?_) | (simp (maxSteps:=2000000) only [↓RG,RP,RB,BEq.rfl,Int.reduceEq,Int.reduceLT,Int.reduceLE,Nat.reduceEqDiff]))
  refine gX (cs:=[]) (most:=96) (l:=r.c) (by omega) ?_
  refine gg ?_
  refine gX (cs:=(mc 96 [] r.c).1) (most:=96) (l:=out) (by omega) ?_
  repeat' (first | (with_reducible refine G.joini0 ?_) | (with_reducible refine G.joini1 ?_) | (with_reducible refine G.drew ?_) | (simp (maxSteps:=2000000) only [↓RG,RP,RB,BEq.rfl,Int.reduceEq,Int.reduceLT,Int.reduceLE,Nat.reduceEqDiff]))
  refine gc (cs:=(mc 96 (mc 96 [] r.c).1 out).1) (most:=96) fun u2 hu2=>?_
  refine gg ?_
  refine fa p c r hv2 ?_
  refine wx (b:=b) hx ?_
  refine D3 (E:=bf) x1 (mc 96 (mc 96 [] r.c).1 out).1 hu2 ?_
  exact hJ.sub
 ·rw [hrev,Qd hs]
  refine G.take1 (kq bf) x1 ?_
  rw [eJ]
  intro u hu
  refine gg ?_
  refine hk _ _ ?_
  have hK:=hK u hu
  rw [fA,gq] at hK
  exact(hK v l ⟨hv,hs,hl⟩).sub
theorem LI {k:Nat}{z:kf}(hk:k<l.length)(hp:jm s l=jm z (l.drop k)) :
  (lJ z l[k].place=0→jm s l=jm (z.put l[k].place l[k].word) (l.drop (k+1)))∧(lJ z l[k].place≠0→jm s l=(z,lJ z l[k].place)):=by
 have e:∀(z:kf) (c:au) (l:List au),jm z (c::l)=if lJ z c.place=0 then jm (z.put c.place c.word) l else (z,lJ z c.place):=fun _ _ _=>rfl
 rw [List.drop_eq_getElem_cons hk,e] at hp
 exact⟨fun h=>by rw [hp,if_pos h],fun h=>by rw [hp,if_neg h]⟩
theorem wq [i:aq L dx b s C][r:∀A,Rd w0 (C A) v bf 2 l](hl:l.length≤1000000)(hK:G w0 (C (ob dx b (pK s l).1)) (K (i64 (pK s l).2))):G w0 L (CP Tryz.prog Fn.levels_Levels_Take [ptr b 0,v] K):=by
 refine G.okL (b:=b) (s:=s) fun hs=>?_
 have ho:=hs.ok s.r (by simp)
 have h6:=hs.six
 have h1:=hs.len
 have h2:=hs.hi
 rw [eu] at h1
 refine i.useM (fun M hM hK=>?_) hK
 have r':=Rd.frame hM r
 refine vL ?_
 unfold n6
 refine tK fun w=>?_
 rw [show held 96 0 96=96 from rfl]
 refine G.take1 dx b ?_
 rw [hN]
 rintro vv p c us ⟨hv,_,hu⟩
 have hul:=zI hu
 refine Ob (by omega) ?_
 refine G.take1 f9 p ?_
 rw [fE]
 intro v2 hv2
 refine gg ?_
 refine gc (cs:=s.r.c) (most:=96) fun u hu2=>?_
 repeat' (first | (with_reducible refine G.joini0 ?_) | (with_reducible refine G.joini1 ?_) | (with_reducible refine G.drew ?_) | (simp (maxSteps:=2000000) only [↓RG,RP,RB,BEq.rfl,Int.reduceEq,Int.reduceLT,Int.reduceLE,Nat.reduceEqDiff]))
 refine gX (cs:=[]) (most:=96) (l:=s.r.c) (by omega) ?_
 rw [tG (most:=96) (cs:=[]) ho.places (by simp;omega),ho.self]
 refine fa p c s.r hv2 ?_
 refine fl b s us p c rfl ⟨hv,hs,hu⟩ ?_
 refine gg ?_
 refine G.loop1 (σ:=Nat×kf) (fun z=>i64 z.1) (fun z=>ob dx b z.2::sl bf u s.r.c::ob gk w (96,s.r.c)::M) (fun z=>z.1≤l.length∧jm s l=jm z.2 (l.drop z.1)∧z.2.most=s.most∧z.2.up=s.up∧z.2.r.f=s.r.f) (fun z=>l.length-z.1) (0,s) rfl rfl ⟨by simp,by simp,rfl,rfl,rfl⟩ ?_
 rintro⟨k,z⟩ ⟨hk,hp,e1,e2,e3⟩ J hJ
 simp only at hk hp e1 e2 e3 hJ ⊢
 refine gr ?_
 refine G.cond (fun h=>?_) (fun h=>?_)
 ·have hk2:k<l.length:=by simpa using h
  have e:=ct hk2
  obtain⟨p1,p2⟩:=LI hk2 hp
  refine gr ?_
  refine G.new fun q=>?_
  refine gr ?_
  refine pL (s:=z) ?_
  refine gr ?_
  refine G.cond (fun h=>?_) (fun h=>?_)
  ·have h0:lJ z l[k].place≠0:=by simpa using h
   have p3:=p2 h0
   rw [if_neg h0]
   have h4:pK s l=(s,lJ z l[k].place):=by
    unfold pK;rw [p3];simp [h0]
   rw [h4] at hK
   refine G.take1 dx b ?_
   rw [hN]
   rintro v4 p4 c4 us4 ⟨hv4,_,hu4⟩
   have hul4:=zI hu4
   rw [e2] at hul4 hu4
   refine Ob (by omega) ?_
   refine G.take1 f9 p4 ?_
   rw [fE]
   intro v5 hv5
   rw [e3]
   rw [e1]
   refine gg ?_
   refine fa p4 w ⟨s.r.c,s.r.f⟩ hv5 ?_
   refine fl b s us4 p4 w rfl ⟨hv4,hs,hu4⟩ ?_
   exact hK.sub
  ·have h0:lJ z l[k].place=0:=by simpa using h
   rw [if_pos h0]
   refine gr ?_
   rw [di (by omega)]
   exact(hJ (k+1,z.put l[k].place l[k].word) ⟨hk2,p1 h0,e1,e2,e3⟩ (by simp;omega)).sub
 ·have:l.drop k=[]:=List.drop_eq_nil_of_le (by simpa using h)
  rw [this] at hp
  have h4:pK s l=(z,0):=by
   unfold pK;rw [hp];simp [jm]
  rw [h4] at hK
  exact hK.sub
end
end Go.Proofs.YtoealglbimbbmaaGreatDoor.S
