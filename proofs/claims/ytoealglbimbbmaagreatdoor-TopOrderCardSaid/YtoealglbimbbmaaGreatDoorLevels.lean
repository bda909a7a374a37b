import Derived.Test.YtoealglbimbbmaaGreatDoorWrites
import Derived.Test.YtoealglbimbbmaaGreatDoorBack
import Derived.Test.YtoealglbimbbmaaGreatDoorSBack
namespace Go.Proofs.YtoealglbimbbmaaGreatDoor.S
open Go Go.Proofs
set_option linter.unusedVariables false
set_option linter.unusedSimpArgs false
structure Lv where
 c:List au
 f:List Int
structure kh where
 most:Int
 r:Lv
 up:List Lv
def qj:List Lv→Int→Option Int
 | [],_=>none
 | r::l,a=>match fl r.c a with | some x=>some x | none=>qj l a
def eR (l:List Lv):Nat:=(l.map (·.c.length)).sum
def fS (l:List Lv):List Int:=l.flatMap (·.f)
structure uA (s:kh):Prop where
 lo:0≤s.most
 hi:s.most≤96
 len:(eR (s.r::s.up):Int)≤s.most
 six:s.up.length<6
 ok:∀r∈s.r::s.up,Hf r.c
abbrev kh.room (s:kh):Int:=s.most-(eR (s.r::s.up):Int)
def mn (s:kh)(a:Int):Int:=if yi a then (if (je s.r.c a).isSome then 0 else if s.room=0 then 5 else 0) else 2
def kh.put (s:kh)(a x:Int):kh:=⟨s.most,⟨i5 s.r.c a x,s.r.f⟩,s.up⟩
def jk:kh→List au→kh×Int
 | s,[]=>(s,0)
 | s,c::l=>if mn s c.place=0 then jk (s.put c.place c.word) l else (s,mn s c.place)
def pu (s:kh)(l:List au):kh×Int:=if (jk s l).2=0 then ((jk s l).1,0) else (s,(jk s l).2)
def m9 (s:kh):kh×Int:=match s.up with
 | []=>(s,10)
 | q::up=>(⟨s.most,⟨ip q.c s.r.c,q.f++s.r.f⟩,up⟩,0)
def fX (s:kh):kh×Int:=match s.up with
 | []=>(s,10)
 | q::up=>(⟨s.most,q,up⟩,0)
def lK (s:kh):kh×Int:=if 6≤s.up.length+1 then (s,9) else (⟨s.most,⟨[],[]⟩,s.r::s.up⟩,0)
def kh.free (s:kh)(n:Int):kh:=⟨s.most,⟨s.r.c,s.r.f++[n]⟩,s.up⟩
def kh.cells (s:kh):List au:=s.up.foldl (fun out q=>ip q.c out) s.r.c
def kh.frees (s:kh):List Int:=fS (s.up.reverse++[s.r])
theorem ev {r:Lv}{l:List Lv}:eR (r::l)=r.c.length+eR l:=by simp [eR]
theorem nN {l l':List Lv}:eR (l++l')=eR l+eR l':=by simp [eR]
theorem Eb {l:List Lv}:eR l.reverse=eR l:=by
 induction l with
 | nil=>rfl
 | cons r l ih=>rw [List.reverse_cons,nN,ih,ev,ev];simp [eR];omega
theorem kz {l l':List Lv}:fS (l++l')=fS l++fS l':=by simp [fS]
theorem N0 {s:kh}{a:Int}(h:mn s a=0):yi a=true∧((je s.r.c a).isSome=true∨s.room≠0):=by
 unfold mn at h
 split at h
 ·rename_i ha
  refine⟨ha,?_⟩
  split at h
  ·rename_i hs;exact .inl hs
  ·split at h
   ·cases h
   ·rename_i hr;exact .inr hr
 ·cases h
theorem uA.room {s:kh}(h:uA s):0≤s.room:=by have:=h.len;unfold kh.room;omega
theorem uA.put {s:kh}{a x:Int}(h:uA s)(he:mn s a=0):uA (s.put a x):=by
 obtain⟨ha,hr⟩:=N0 he
 have hl:=h.len
 refine⟨h.lo,h.hi,?_,h.six,fun r hr'=>?_⟩
 ·simp only [kh.put,ev,w9] at hl ⊢
  rcases hr with hr | hr
  ·rw [if_pos hr];exact hl
  ·have:s.room=s.most-((s.r.c.length+eR s.up:Nat):Int):=by unfold kh.room;rw [ev]
   split <;> omega
 ·rcases List.mem_cons.1 hr' with e | hr'
  ·rw [e];exact(h.ok _ (by simp)).put ha
  ·exact h.ok _ (List.mem_cons_of_mem _ hr')
theorem uA.puts:∀{l:List au}{s:kh},uA s→uA (jk s l).1
 | [],s,h=>h
 | c::l,s,h=>by
  unfold jk
  split
  ·rename_i h0;exact uA.puts (h.put h0)
  ·exact h
theorem uA.take {s:kh}{l:List au}(h:uA s):uA (pu s l).1:=by
 unfold pu
 split
 ·exact h.puts
 ·exact h
theorem uA.new {n:Int}:uA ⟨held n 0 96,⟨[],[]⟩,[]⟩:=by
 have hb:=ft (n:=n) (show (0:Int)≤96 by omega)
 refine⟨hb.1,hb.2,by simpa [eR] using hb.1,by simp,fun r hr=>?_⟩
 have:r=⟨[],[]⟩:=by simpa using hr
 rw [this];exact .nil
theorem uA.opened {s:kh}(h:uA s)(h6:¬6≤s.up.length+1):uA ⟨s.most,⟨[],[]⟩,s.r::s.up⟩:=by
 refine⟨h.lo,h.hi,?_,by simp;omega,fun r hr=>?_⟩
 ·have:=h.len
  rw [ev];simpa using this
 ·rcases List.mem_cons.1 hr with e | hr
  ·rw [e];exact .nil
  ·exact h.ok _ hr
theorem uA.dropped {s:kh}{q:Lv}{up:List Lv}(h:uA s)(e:s.up=q::up):uA ⟨s.most,q,up⟩:=by
 have hl:=h.len
 have h6:=h.six
 have ho:=h.ok
 rw [e] at hl h6 ho
 refine⟨h.lo,h.hi,?_,by simp at h6 ⊢;omega,fun r hr=>ho _ (List.mem_cons_of_mem _ hr)⟩
 rw [ev] at hl
 simp only
 omega
theorem uA.kept {s:kh}{q:Lv}{up:List Lv}(h:uA s)(e:s.up=q::up):uA ⟨s.most,⟨ip q.c s.r.c,q.f++s.r.f⟩,up⟩:=by
 have hl:=h.len
 have h6:=h.six
 have ho:=h.ok
 rw [e] at hl h6 ho
 have hp:=BD (cs:=q.c) (l:=s.r.c)
 refine⟨h.lo,h.hi,?_,by simp at h6 ⊢;omega,fun r hr=>?_⟩
 ·simp only [ev] at hl ⊢
  omega
 ·rcases List.mem_cons.1 hr with e2 | hr
  ·rw [e2];exact(ho q (by simp)).puts (ho s.r (by simp)).places
  ·exact ho _ (by simp [hr])
theorem uA.free {s:kh}{n:Int}(h:uA s):uA (s.free n):=by
 refine⟨h.lo,h.hi,?_,h.six,fun r hr=>?_⟩
 ·have:=h.len
  simpa [kh.free,ev] using this
 ·rcases List.mem_cons.1 hr with e | hr
  ·rw [e];exact h.ok s.r (by simp)
  ·exact h.ok _ (List.mem_cons_of_mem _ hr)
theorem EL {a:Int}:∀{l:List Lv},(∀r∈l,fl r.c a=none)→qj l a=none
 | [],_=>rfl
 | r::l,h=>by unfold qj;rw [h r (by simp)];exact EL fun q hq=>h q (by simp [hq])
theorem HJ {a x:Int}{r:Lv}{l':List Lv}(hx:fl r.c a=some x):∀{l:List Lv},(∀r∈l,fl r.c a=none)→qj (l++r::l') a=some x
 | [],_=>by show qj (r::l') a=some x;unfold qj;rw [hx]
 | q::l,h=>by show qj (q::(l++r::l')) a=some x;unfold qj;rw [h q (by simp)];exact HJ hx fun q hq=>h q (by simp [hq])
def FP (out:List au)(r:Lv):List au:=(mh 96 (mh 96 [] r.c).1 out).1
theorem Rw {out:List au}{r:Lv}(ho:Hf r.c)(hout:∀c∈out,yi c.place=true)(hl:r.c.length+out.length≤96):FP out r=ip r.c out:=by
 unfold FP
 rw [tx (most:=96) (cs:=[]) ho.places (by simp;omega),ho.self,tx hout (by show (r.c.length+out.length:Int)≤96;omega)]
theorem HX.new {n:Int}:HX (held n 0 96) []:=by
 have hb:=ft (n:=n) (show (0:Int)≤96 by omega)
 exact⟨hb.1,hb.2,by simpa using hb.1,.nil⟩
theorem RW {out:List au}{r:Lv}:(FP out r).length≤96:=by
 have h:HX 96 (FP out r):=(HX.take (HX.take (HX.new (n:=96))))
 have:=h.len
 omega
theorem JN:∀{l:List Lv}{out:List au},(∀r∈l,Hf r.c)→(∀c∈out,yi c.place=true)→out.length+eR l≤96→l.foldl FP out=l.foldl (fun out q=>ip q.c out) out
 | [],out,_,_,_=>rfl
 | r::l,out,h,ho,hl=>by
  rw [ev] at hl
  have hp:=BD (cs:=r.c) (l:=out)
  rw [List.foldl_cons,List.foldl_cons,Rw (h r (by simp)) ho (by omega)]
  exact JN (fun q hq=>h q (by simp [hq])) ((h r (by simp)).puts ho).places (by omega)
theorem PD {s:kh}(h:uA s):(s.r::s.up).foldl FP []=s.cells:=by
 have hl:=h.len
 have hi:=h.hi
 have ho:=h.ok s.r (by simp)
 rw [JN h.ok (by simp) (by simp;omega),List.foldl_cons]
 rfl
def f8 (b:Nat)(s:Nat×Lv):ay:=mW fun v=>bk (ie (ar v [v])) (bk (bk (own b [ptr s.1 0,v]) (ob gm s.1 (96,s.2.c))) (sl bg v s.2.f))
def sj (b:Nat)(l:List (Nat×Nat×Lv)):ay:=da (l.map fun x=>ob f8 x.1 x.2)
abbrev ik (l:List (Nat×Nat×Lv)):List Nat:=l.map (·.1)
abbrev zW (l:List (Nat×Nat×Lv)):List Lv:=l.map (·.2.2)
def dx (b:Nat)(s:kh):ay:=mW fun v=>mW fun(l:List (Nat×Nat×Lv))=>bk (ie (ar v [v]∧uA s∧zW l=s.up.reverse++[s.r])) (bk (bk (own b [i64 s.most,v]) (sl gX v (ik l))) (ob sj b l))
section
variable {w0:bh}{L M:List ay}{K:KV}{F:World→Prop}{C:ay→List ay}{b p c k:Nat}{a x n:Int}{r:Lv}{s:kh}{l us:List (Nat×Nat×Lv)}{v:Value}
theorem Dp {l l':List (Nat×Nat×Lv)}:ik (l++l')=ik l++ik l':=List.map_append
theorem EC {l l':List (Nat×Nat×Lv)}:zW (l++l')=zW l++zW l':=List.map_append
theorem fE:G w0 (ob f8 p (c,r)::M) F=∀v,ar v [v]→G w0 (own p [ptr c 0,v]::ob gm c (96,r.c)::sl bg v r.f::M) F:=by
 rw [eZ,f8]
 simp only [qv,fa,fU]
theorem fb {v:Value}(p c:Nat)(r:Lv) [ez [own p [ptr c 0,v],ob gm c (96,r.c),sl bg v r.f] L M](hv:ar v [v])(H:G w0 (ob f8 p (c,r)::M) F):G w0 L F :=
 G.pickAll (As:=[own p [ptr c 0,v],ob gm c (96,r.c),sl bg v r.f]) (by rw [fE] at H;exact H v hv)
theorem Mb {α:Type}(f:α→ay):∀{l:List α}{k:Nat}{x:α},l[k]? = some x→da (l.map f)=da (f x::(l.eraseIdx k).map f)
 | [],k,x,h=>by simp at h
 | y::l,0,x,h=>by simp at h;subst h;rfl
 | y::l,k+1,x,h=>by
  have:=Mb f (l:=l) (k:=k) (x:=x) (by simpa using h)
  show bk (f y) (da (l.map f))=bk (f x) (bk (f y) (da ((l.eraseIdx k).map f)))
  rw [this,iR];rfl
theorem Ck {p c:Nat}{r:Lv}(h:l[k]? = some (p,c,r)):G w0 (ob sj b l::M) F=G w0 (ob f8 p (c,r)::ob sj b (l.eraseIdx k)::M) F:=dm (by
 show bk (ob sj b l) (da M)=bk (ob f8 p (c,r)) (bk (ob sj b (l.eraseIdx k)) (da M))
 rw [eZ sj,eZ sj,sj,Mb _ h,←DU];rfl)
theorem tq:G w0 (ob sj b (us++[(p,c,r)])::M) F=G w0 (ob f8 p (c,r)::ob sj b us::M) F:=by
 rw [Ck (k:=us.length) (p:=p) (c:=c) (r:=r) (by simp)]
 congr 3
 simp [List.eraseIdx_append_of_length_le]
theorem KW (b:Nat)(us:List (Nat×Nat×Lv))(p c:Nat)(r:Lv) [ez [ob f8 p (c,r),ob sj b us] L M](H:G w0 (ob sj b (us++[(p,c,r)])::M) F):G w0 L F :=
 G.pickAll (As:=[ob f8 p (c,r),ob sj b us]) (by rw [tq] at H;exact H)
theorem wB {p c:Nat}{r:Lv}(h:l[k]? = some (p,c,r)) [ez [ob f8 p (c,r),ob sj b (l.eraseIdx k)] L M](H:G w0 (ob sj b l::M) F):G w0 L F :=
 G.pickAll (As:=[ob f8 p (c,r),ob sj b (l.eraseIdx k)]) (by rw [Ck h] at H;exact H)
theorem tZ {As Bs:List ay}:da (As++Bs)=bk (da As) (da Bs):=by
 induction As with
 | nil=>exact(qi _).symm
 | cons A As ih=>show bk A (da (As++Bs))=bk (bk A (da As)) (da Bs);rw [ih,DU]
theorem RM {As:List ay}(H:G w0 (As++ob sj b []::M) F):G w0 (As++M) F:=by
 rw [dm (L':=As++M)] at H
 ·exact H
 ·rw [tZ,tZ]
  show bk _ (bk (ob sj b []) _)=_
  rw [eZ sj]
  show bk _ (bk LF _)=_
  rw [qi]
theorem gj:G w0 (ob dx b s::M) F=∀v l,(ar v [v]∧uA s∧zW l=s.up.reverse++[s.r])→G w0 (own b [i64 s.most,v]::sl gX v (ik l)::ob sj b l::M) F:=by
 rw [eZ,dx]
 simp only [qv,fa,fU]
theorem hC:G w0 (ob dx b s::M) F=∀v p c us,(ar v [v]∧uA s∧zW us=s.up.reverse)→G w0 (own b [i64 s.most,v]::sl gX v (ik us++[p])::ob f8 p (c,s.r)::ob sj b us::M) F:=by
 rw [gj]
 have e:∀v us p c,G w0 (own b [i64 s.most,v]::sl gX v (ik (us++[(p,c,s.r)]))::ob sj b (us++[(p,c,s.r)])::M) F=G w0 (own b [i64 s.most,v]::sl gX v (ik us++[p])::ob f8 p (c,s.r)::ob sj b us::M) F:=fun v us p c=>by
  rw [D5,tq,Dp]
  apply dm
  show bk _ (bk _ (bk _ (bk _ _)))=bk _ (bk _ (bk _ (bk _ _)))
  rw [iR (ob sj b us),iR (ob sj b us),iR (ob f8 p (c,s.r)),iR (ob f8 p (c,s.r))]
  rfl
 apply propext
 constructor
 ·rintro H v p c us ⟨h1,h2,h3⟩
  rw [←e]
  exact H v (us++[(p,c,s.r)]) ⟨h1,h2,by rw [EC,h3];rfl⟩
 ·rintro H v l ⟨h1,h2,h3⟩
  obtain⟨us,y,hl,h4,h5⟩:=List.map_eq_append_iff.1 h3
  obtain⟨z,zs,rfl,h6,h7⟩:=List.map_eq_cons_iff.1 h5
  have:zs=[]:=by simpa using h7
  subst this
  obtain⟨p,c,q⟩:=z
  simp only at h6
  subst h6
  subst hl
  rw [e]
  exact H v p c us ⟨h1,h2,h4⟩
theorem fk {v:Value}{xs:List Nat}(b:Nat)(s:kh)(us:List (Nat×Nat×Lv))(p c:Nat) [ez [own b [i64 s.most,v],sl gX v xs,ob f8 p (c,s.r),ob sj b us] L M](hx:xs=ik us++[p])(h:ar v [v]∧uA s∧zW us=s.up.reverse)(H:G w0 (ob dx b s::M) F):G w0 L F :=
 G.pickAll (As:=[own b [i64 s.most,v],sl gX v xs,ob f8 p (c,s.r),ob sj b us]) (by rw [hC] at H;subst hx;exact H v p c us h)
theorem G.okL [i:aq L dx b s C](h:uA s→G w0 L F):G w0 L F:=by
 by_cases hw:uA s
 ·exact h hw
 ·refine i.ro (F':=fun _=>True) (fun M _=>?_) (fun _ _=>trivial)
  rw [gj]
  exact fun v l hv=>absurd hv.2.1 hw
theorem zT {up:List Lv}(h:zW us=up.reverse):us.length=up.length:=by
 have:=congrArg List.length h
 simpa using this
theorem wT (hK:∀p c,G w0 (ob f8 p (c,⟨[],[]⟩)::L) (K (ptr p 0))):G w0 L (CP Tryz.prog WD [] K):=by
 refine F2 ?_
 unfold wo
 refine tv fun c=>?_
 rw [show held 96 0 96=96 from rfl]
 refine gr ?_
 refine G.nilsl bg ?_
 refine G.box fun p=>?_
 refine fb (v:=.slice none 0 0) p c ⟨[],[]⟩ be ?_
 exact hK p c
theorem A2 {n:Int}(hK:∀b,G w0 (ob dx b ⟨held n 0 96,⟨[],[]⟩,[]⟩::L) (K (ptr b 0))):G w0 L (CP Tryz.prog Wx [i64 n] K):=by
 refine Iy ?_
 unfold AL
 refine gr ?_
 have e3:(if (if (96:Int)<n then (96:Int) else n) > 0 then (if (96:Int)<n then (96:Int) else n) else 0)=held n 0 96:=by
  unfold held;split <;> split <;> split <;> (try split) <;> omega
 rw [e3]
 refine wT fun p c=>?_
 refine G.build gX [p] rfl (by simp) rfl fun v hv=>?_
 refine gr ?_
 refine G.box fun b=>?_
 have h:=hK b
 rw [hC] at h
 have h2:=h v p c [] ⟨hv,uA.new,rfl⟩
 exact RM (b:=b) (As:=[own b [i64 (held n 0 96),v],sl gX v [p],ob f8 p (c,⟨[],[]⟩)]) h2
theorem N6 (hl:us.length≤1000000)(hK:G w0 (own b [i64 n,v]::sl gX v (ik us++[p])::M) (K (ptr p 0))):G w0 (own b [i64 n,v]::sl gX v (ik us++[p])::M) (CP Tryz.prog Va [ptr b 0] K):=by
 refine zE ?_
 unfold qF
 have e:eU (ik us++[p]) us.length p:=⟨by simp⟩
 refine G.drew ?_
 refine gr ?_
 have w1:IntKind.wrap .i64 (((ik us++[p]).length:Nat)-1:Int)=(us.length:Int):=by
  simp only [List.length_append,List.length_map,List.length_singleton]
  rw [iy (by omega) (by omega)];omega
 rw [w1]
 refine gr ?_
 exact hK
theorem wg [i:aq L dx b s C](hK:G w0 (C (ob dx b (lK s).1)) (K (i64 (lK s).2))):G w0 L (CP Tryz.prog YX [ptr b 0] K):=by
 refine i.use (fun M hK=>?_) hK
 rw [hC]
 rintro v p c us ⟨hv,hs,hu⟩
 have hul:=zT hu
 have h6':=hs.six
 have hll:(ik us++[p]).length=s.up.length+1:=by simp [hul]
 refine vJ ?_
 unfold o0
 unfold lK at hK
 by_cases h6:6≤s.up.length+1
 ·rw [if_pos h6,hC] at hK
  have h7:(6:Int)≤((s.up.length+1:Nat):Int):=by omega
  refine eY (an hll h7) ?_
  exact hK v p c us ⟨hv,hs,hu⟩
 ·rw [if_neg h6] at hK
  have h7:¬(6:Int)≤((s.up.length+1:Nat):Int):=by omega
  repeat' (first | (with_reducible refine G.joini0 ?_) | (with_reducible refine G.joini1 ?_) | (with_reducible refine G.drew ?_) | (simp (maxSteps:=2000000) only [↓RG,RP,RB,BEq.rfl,Int.reduceEq,Int.reduceLT,Int.reduceLE,Nat.reduceEqDiff,hll,h7]))
  refine wT fun q d=>?_
  refine gg ?_
  refine G.build gX [q] rfl (by simp) rfl fun u hu2=>?_
  refine gg ?_
  refine G.append (by rw [hll];simp;omega) (by rw [hll];simp [maxLen];omega) fun u2 hu3=>?_
  refine gg ?_
  refine KW b us p c s.r ?_
  refine fk b ⟨s.most,⟨[],[]⟩,s.r::s.up⟩ (us++[(p,c,s.r)]) q d (show ik us++[p]++[q]=ik (us++[(p,c,s.r)])++[q] by simp) ⟨hu3,hs.opened h6,by simp [hu]⟩ ?_
  exact hK.sub
theorem Hj {p' c':Nat}{q:Lv}{us':List (Nat×Nat×Lv)}(hl:us'.length≤1000000)(hK:∀v',ar v' [v']→G w0 (own b [i64 n,v']::sl gX v' (ik us'++[p'])::M) (K (i64 0))) :
  G w0 (own b [i64 n,v]::sl gX v (ik (us'++[(p',c',q)])++[p])::M) (CP Tryz.prog Vv [ptr b 0] K):=by
 refine oe ?_
 unfold jF
 have hll:(ik (us'++[(p',c',q)])++[p]).length=us'.length+2:=by simp
 have h1:¬(((us'.length+2:Nat):Int)=1):=by omega
 have h2:IntKind.wrap .i64 (((us'.length+2:Nat):Int)-1)=((us'.length+1:Nat):Int):=by rw [iy (by omega) (by omega)];omega
 repeat' (first | (with_reducible refine G.joini0 ?_) | (with_reducible refine G.joini1 ?_) | (with_reducible refine G.drew ?_) | (simp (maxSteps:=2000000) only [↓RG,RP,RB,BEq.rfl,Int.reduceEq,Int.reduceLT,Int.reduceLE,Nat.reduceEqDiff,hll,h1,h2]))
 refine G.take (by rw [hll];omega) fun u hu=>?_
 have e:(ik (us'++[(p',c',q)])++[p]).take (us'.length+1)=ik us'++[p']:=by
  rw [List.take_append_of_le_length (by simp),List.take_of_length_le (by simp)];simp
 rw [e]
 refine gg ?_
 exact hK u hu
theorem Es {v:Value}{M:List ay}(hK:G w0 (own b [i64 n,v]::sl gX v (ik []++[p])::M) (K (i64 10))):G w0 (own b [i64 n,v]::sl gX v (ik []++[p])::M) (CP Tryz.prog Vv [ptr b 0] K):=by
 refine oe ?_
 unfold jF
 have hll:(ik []++[p]).length=1:=by simp
 have h1:((1:Nat):Int)=1:=rfl
 refine eY (an hll h1) ?_
 exact hK
theorem Np {q:Lv}{up:List Lv}(h:zW us=(q::up).reverse):∃us' p' c',us=us'++[(p',c',q)]∧zW us'=up.reverse:=by
 rw [List.reverse_cons] at h
 obtain⟨us',y,hl,h4,h5⟩:=List.map_eq_append_iff.1 h
 obtain⟨z,zs,rfl,h6,h7⟩:=List.map_eq_cons_iff.1 h5
 have:zs=[]:=by simpa using h7
 subst this
 obtain⟨p,c,q'⟩:=z
 simp only at h6
 subst h6
 exact⟨us',p,c,hl,h4⟩
theorem we [i:aq L dx b s C](hK:G w0 (C (ob dx b (fX s).1)) (K (i64 (fX s).2))):G w0 L (CP Tryz.prog Vv [ptr b 0] K):=by
 refine i.use (fun M hK=>?_) hK
 rw [hC]
 rintro v p c us ⟨hv,hs,hu⟩
 have hul:=zT hu
 have h6:=hs.six
 unfold fX at hK
 cases e:s.up with
 | nil =>
  rw [e] at hK hu
  have:us=[]:=by simpa using hu
  subst this
  refine Es ?_
  refine fk b s [] p c rfl ⟨hv,hs,by rw [e];rfl⟩ ?_
  exact hK
 | cons q up =>
  rw [e] at hK hu
  obtain⟨us',p',c',rfl,hu'⟩:=Np hu
  simp only [List.length_append,List.length_singleton] at hul
  refine Hj (by omega) fun v' hv'=>?_
  refine G.take1 sj b ?_
  rw [tq]
  refine fk b ⟨s.most,q,up⟩ us' p' c' rfl ⟨hv',hs.dropped e,hu'⟩ ?_
  exact hK.sub
theorem wX [i:aq L dx b s C](hf:s.r.f.length≤1000000)(hK:G w0 (C (ob dx b (s.free n))) (K (.tuple #[]))):G w0 L (CP Tryz.prog YW [ptr b 0,i64 n] K):=by
 refine i.use (fun M hK=>?_) hK
 rw [hC]
 rintro v p c us ⟨hv,hs,hu⟩
 have hul:=zT hu
 have h6:=hs.six
 refine xg ?_
 unfold o6
 refine N6 (by omega) ?_
 refine G.take1 f8 p ?_
 rw [fE]
 intro v2 hv2
 refine gr ?_
 refine G.append1 (E:=bg) rfl rfl (by decide) (by omega) (by simp only [maxLen];omega) fun u hu2=>?_
 refine gr ?_
 refine fb p c ⟨s.r.c,s.r.f++[n]⟩ hu2 ?_
 refine fk b ⟨s.most,⟨s.r.c,s.r.f++[n]⟩,s.up⟩ us p c rfl ⟨hv,hs.free,hu⟩ ?_
 exact hK
theorem wj [i:aq L dx b s C](hf:s.frees.length≤1000000)(hK:G w0 (C (ob dx b (m9 s).1)) (K (i64 (m9 s).2))):G w0 L (CP Tryz.prog YS [ptr b 0] K):=by
 refine i.use (fun M hK=>?_) hK
 rw [hC]
 rintro v p c us ⟨hv,hs,hu⟩
 have hul:=zT hu
 have h6:=hs.six
 refine wz ?_
 unfold o9
 refine N6 (by omega) ?_
 unfold m9 at hK
 cases e:s.up with
 | nil =>
  rw [e] at hK hu
  have:us=[]:=by simpa using hu
  subst this
  refine Es ?_
  refine gr ?_
  refine fk b s [] p c rfl ⟨hv,hs,by rw [e];rfl⟩ ?_
  exact hK
 | cons q up =>
  rw [e] at hK hu
  obtain⟨us',p',c',rfl,hu'⟩:=Np hu
  simp only [List.length_append,List.length_singleton] at hul
  have hf2:q.f.length+s.r.f.length≤1000000:=by
   unfold kh.frees at hf
   rw [e,List.reverse_cons,kz,kz] at hf
   simp only [fS,List.flatMap_cons,List.flatMap_nil,List.append_nil,List.length_append] at hf
   omega
  have hl:=hs.len
  have hi:=hs.hi
  have ho:=hs.ok s.r (by simp)
  rw [e,ev,ev] at hl
  refine Hj (by omega) fun v' hv'=>?_
  refine G.take1 sj b ?_
  rw [tq]
  refine G.take1 f8 p ?_
  rw [fE]
  intro v2 hv2
  refine G.take1 f8 p' ?_
  rw [fE]
  intro v3 hv3
  refine G.take1 (P7 gX) v' ?_
  refine G.take1 og b ?_
  refine gr ?_
  refine N6 (by omega) ?_
  repeat' (first | (with_reducible refine G.joini0 ?_) | (with_reducible refine G.joini1 ?_) | (with_reducible refine G.drew ?_) | (simp (maxSteps:=2000000) only [↓RG,RP,RB,BEq.rfl,Int.reduceEq,Int.reduceLT,Int.reduceLE,Nat.reduceEqDiff]))
  refine G.append (xs:=q.f) (ys:=s.r.f) (by omega) (by simp only [maxLen];omega) fun u hu2=>?_
  repeat' (first | (with_reducible refine G.joini0 ?_) | (with_reducible refine G.joini1 ?_) | (with_reducible refine G.drew ?_) | (simp (maxSteps:=2000000) only [↓RG,RP,RB,BEq.rfl,Int.reduceEq,Int.reduceLT,Int.reduceLE,Nat.reduceEqDiff]))
  refine gc (cs:=s.r.c) (most:=96) fun u2 hu3=>?_
  refine gg ?_
  refine gY (cs:=q.c) (most:=96) (l:=s.r.c) (by omega) ?_
  rw [tx ho.places (by omega)]
  refine gg ?_
  refine fb p' c' ⟨ip q.c s.r.c,q.f++s.r.f⟩ hu2 ?_
  refine fk b ⟨s.most,⟨ip q.c s.r.c,q.f++s.r.f⟩,up⟩ us' p' c' rfl ⟨hv',hs.kept e,hu'⟩ ?_
  exact hK.sub
end
end Go.Proofs.YtoealglbimbbmaaGreatDoor.S
namespace Go.Proofs.YtoealglbimbbmaaGreatDoor.S
open Go Go.Proofs
set_option linter.unusedVariables false
set_option linter.unusedSimpArgs false
theorem KN {l:List Lv}{k:Nat}(hk:k<l.length):eR (l.take (k+1))=eR (l.take k)+l[k].c.length:=by
 rw [List.take_add_one,List.getElem?_eq_getElem hk,nN]
 simp [eR]
theorem xd {l:List Lv}{k:Nat}:eR (l.take k)≤eR l:=by
 have:eR (l.take k++l.drop k)=eR (l.take k)+eR (l.drop k):=nN
 rw [List.take_append_drop] at this
 omega
theorem Dm {l:List Lv}{k:Nat}(hk:k<l.length):fS (l.take (k+1))=fS (l.take k)++l[k].f:=by
 rw [List.take_add_one,List.getElem?_eq_getElem hk,kz]
 simp [fS]
theorem Ed {l:List Lv}{k:Nat}(hk:k<l.length):(fS (l.take k)).length+l[k].f.length≤(fS l).length:=by
 have:fS (l.take (k+1)++l.drop (k+1))=fS (l.take (k+1))++fS (l.drop (k+1)):=kz
 rw [List.take_append_drop,Dm hk] at this
 rw [this]
 simp
section
variable {w0:bh}{L M:List ay}{K:KV}{F:World→Prop}{C:ay→List ay}{b p c k:Nat}{a x n:Int}{r:Lv}{s:kh}{l us:List (Nat×Nat×Lv)}{v:Value}{xs:List Nat}
theorem Rr {k:Nat}(hk:k<l.length):∃p c,l[k]? = some (p,c,l[k].2.2)∧eU (ik l) k p∧∃h:k<(zW l).length,(zW l)[k]=l[k].2.2 :=
 ⟨l[k].1,l[k].2.1,List.getElem?_eq_getElem hk,⟨by simp [hk]⟩,by simpa using hk,by simp⟩
theorem J8 (hx:xs=ik l)(hl:l.length≤1000000)(h0:0≤n)(h1:n≤96)(ht:eR (zW l)≤96)(hK:G w0 (own b [i64 n,v]::sl gX v xs::ob sj b l::M) (K (i64 (n-eR (zW l))))) :
  G w0 (own b [i64 n,v]::sl gX v xs::ob sj b l::M) (CP Tryz.prog YT [ptr b 0] K):=by
 subst hx
 refine wi ?_
 unfold nZ
 have hll:(ik l).length=l.length:=by simp
 refine eY hll ?_
 refine G.loop2 (fun k:Nat=>i64 (n-eR ((zW l).take k))) (fun k:Nat=>i64 k) (fun _=>own b [i64 n,v]::sl gX v (ik l)::ob sj b l::M) (fun k=>k≤l.length) (fun k=>l.length-k) 0 (by simp [eR]) rfl rfl (by simp) ?_
 intro k hk J hJ
 refine gr ?_
 refine G.cond (fun h=>?_) (fun h=>?_)
 ·have hk2:k<l.length:=by simpa using h
  obtain⟨p,c,hx,e,hk3,e2⟩:=Rr hk2
  have t1:=KN hk3
  have t2:=xd (l:=zW l) (k:=k)
  have t3:=xd (l:=zW l) (k:=k+1)
  rw [e2] at t1
  generalize l[k].2.2=r at hx t1
  refine gr ?_
  refine G.take1 sj b ?_
  rw [Ck hx,fE]
  intro v2 hv2
  refine gr ?_
  refine yj (cs:=r.c) (most:=96) ?_
  refine gr ?_
  rw [di (by omega),iy (by omega) (by omega)]
  refine fb p c r hv2 ?_
  refine wB (b:=b) hx ?_
  have h:=hJ (k+1) hk2 (by omega)
  rw [t1] at h
  rw [show n-(eR (List.take k (zW l)):Int)-r.c.length=n-((eR (List.take k (zW l))+r.c.length:Nat):Int) by omega]
  exact h.sub
 ·have:(zW l).take k=zW l:=List.take_of_length_le (by simpa using h)
  rw [this]
  exact hK
theorem uA.total {s:kh}(hs:uA s)(hl:zW l=s.up.reverse++[s.r]):eR (zW l)=eR (s.r::s.up):=by
 rw [hl,nN,Eb,ev,ev];simp [eR];omega
theorem PA {s:kh}(hl:zW l=s.up.reverse++[s.r]):l.length=s.up.length+1:=by
 have:=congrArg List.length hl
 simpa using this
theorem py [i:aq L dx b s C](hK:G w0 (C (ob dx b (if mn s a=0 then s.put a x else s))) (K (i64 (mn s a)))):G w0 L (CP Tryz.prog WJ [ptr b 0,i64 a,u64 x] K):=by
 refine i.use (fun M hK=>?_) hK
 refine yv ?_
 unfold px
 refine gu ?_
 refine gr ?_
 refine G.cond (fun h=>?_) (fun h=>?_)
 ·have h0:mn s a=2:=by unfold mn;rw [if_neg];rw [Au];simp at h;omega
  rw [h0] at hK
  exact hK
 ·have ha:yi a=true:=by rw [Au];simp at h;omega
  rw [hC]
  rintro v p c us ⟨hv,hs,hu⟩
  have hul:=zT hu
  have h6:=hs.six
  have b1:=hs.lo
  have b2:=hs.hi
  have b3:=hs.len
  refine N6 (by omega) ?_
  refine G.take1 f8 p ?_
  rw [fE]
  intro v2 hv2
  refine gr ?_
  refine pE (cs:=s.r.c) (most:=96) ?_
  have hsome:=wP (cs:=s.r.c) (a:=a)
  cases hi:fl s.r.c a with
  | some y =>
   rw [hi] at hsome
   have h0:mn s a=0:=by unfold mn;rw [if_pos ha,hsome];rfl
   have h1:mw 96 s.r.c a=0:=by unfold mw;rw [if_pos ha,hsome];rfl
   rw [h0,if_pos rfl] at hK
   simp only [E9,hi]
   refine gg ?_
   refine ki (cs:=s.r.c) (most:=96) ?_
   rw [h1,if_pos rfl]
   refine fb p c ⟨i5 s.r.c a x,s.r.f⟩ hv2 ?_
   refine fk b ⟨s.most,⟨i5 s.r.c a x,s.r.f⟩,s.up⟩ us p c rfl ⟨hv,hs.put h0,hu⟩ ?_
   exact hK
  | none =>
   rw [hi] at hsome
   have hsome:(je s.r.c a).isSome=false:=by simpa using hsome
   simp only [E9,hi]
   refine gg ?_
   refine fb p c s.r hv2 ?_
   refine KW b us p c s.r ?_
   refine G.take1 (P7 gX) v ?_
   refine G.take1 og b ?_
   have hl:zW (us++[(p,c,s.r)])=s.up.reverse++[s.r]:=by rw [EC,hu];rfl
   have ht:=hs.total hl
   refine J8 (l:=us++[(p,c,s.r)]) (by rw [Dp];rfl) (by simp;omega) (by omega) (by omega) (by omega) ?_
   rw [ht]
   by_cases hr:s.room=0
   ·have h0:mn s a=5:=by unfold mn;rw [if_pos ha,hsome];simp [hr]
    have hr2:s.most-(eR (s.r::s.up):Int)=0:=hr
    rw [h0,if_neg (by decide)] at hK
    refine gf hr2 ?_
    refine G.take1 sj b ?_
    rw [tq]
    refine fk b s us p c rfl ⟨hv,hs,hu⟩ ?_
    exact hK
   ·have h0:mn s a=0:=by unfold mn;rw [if_pos ha,hsome];simp [hr]
    have hr2:¬s.most-(eR (s.r::s.up):Int)=0:=hr
    have hlen:s.r.c.length<96:=by rw [ev] at b3 hr2;omega
    have h1:mw 96 s.r.c a=0:=by unfold mw;rw [if_pos ha,hsome,if_neg (by decide),if_neg (by omega)]
    rw [h0,if_pos rfl] at hK
    refine gf hr2 ?_
    refine G.take1 sj b ?_
    rw [tq,fE]
    intro v3 hv3
    refine ki (cs:=s.r.c) (most:=96) ?_
    rw [h1,if_pos rfl]
    refine fb p c ⟨i5 s.r.c a x,s.r.f⟩ hv3 ?_
    refine fk b ⟨s.most,⟨i5 s.r.c a x,s.r.f⟩,s.up⟩ us p c rfl ⟨hv,hs.put h0,hu⟩ ?_
    exact hK
theorem uP [i:aq L dx b s C](hf:s.frees.length≤1000000)(hK:∀u,ar u [u]→G w0 (sl bg u s.frees::L) (K u)):G w0 L (CP Tryz.prog Yr [ptr b 0] K):=by
 refine i.roN (fun M hK=>?_) hK
 rw [gj]
 rintro v l ⟨hv,hs,hl⟩
 have hll:(ik l).length=l.length:=by simp
 have h4:=hs.six
 have h5:=PA hl
 unfold kh.frees at hf hK
 rw [←hl] at hf hK
 refine vh ?_
 unfold mO
 refine eY hll ?_
 refine G.nilsl bg ?_
 refine G.loop2 (σ:=Value×Nat) (fun z=>z.1) (fun z=>i64 z.2) (fun z=>sl bg z.1 (fS ((zW l).take z.2))::own b [i64 s.most,v]::sl gX v (ik l)::ob sj b l::M) (fun z=>z.2≤l.length∧ar z.1 [z.1]) (fun z=>l.length-z.2) (_,0) rfl rfl (by simp [fS]) ⟨by simp,be⟩ ?_
 rintro⟨u,k⟩ ⟨hk,hu⟩ J hJ
 simp only at hk hu hJ ⊢
 refine gr ?_
 refine G.cond (fun h=>?_) (fun h=>?_)
 ·have hk2:k<l.length:=by simpa using h
  obtain⟨p,c,hx,e,hk3,e2⟩:=Rr hk2
  have t1:=Dm hk3
  have t2:=Ed hk3
  rw [e2] at t1 t2
  generalize l[k].2.2=r at hx t1 t2
  refine gr ?_
  refine G.take1 sj b ?_
  rw [Ck hx,fE]
  intro v2 hv2
  refine gr ?_
  refine G.append (xs:=fS (List.take k (zW l))) (ys:=r.f) (by omega) (by simp only [maxLen];omega) fun u2 hu2=>?_
  refine gr ?_
  rw [di (by omega)]
  refine fb p c r hv2 ?_
  refine wB (b:=b) hx ?_
  have h:=hJ (u2,k+1) ⟨hk2,hu2⟩ (by simp;omega)
  simp only [t1] at h
  exact h.sub
 ·have:(zW l).take k=zW l:=List.take_of_length_le (by simpa using h)
  rw [this]
  have hK:=hK u hu
  rw [fA,gj] at hK
  exact(hK v l ⟨hv,hs,hl⟩).sub
def z6 (l:List (Nat×Nat×Lv))(k:Nat):Lv:=match l[k]? with | some x=>x.2.2 | none=>⟨[],[]⟩
theorem M8 {k:Nat}{p c:Nat}{r:Lv}(h:l[k]? = some (p,c,r)):z6 l k=r:=by unfold z6;rw [h]
theorem HD:(kJ (ik l).length).map (fun i=>z6 l i.1)=(zW l).reverse :=
 OU (l:=zW l) (z6 l) (by simp) fun i y h=>by
  unfold z6
  rw [List.getElem?_map] at h
  cases e:l[i]? with
  | none=>rw [e] at h;cases h
  | some z=>rw [e] at h;cases h;rfl
def Iz (s:kh)(a:Int):Value:=match qj (s.r::s.up) a with | some x=>.tuple #[u64 x,.bool true] | none=>.tuple #[u64 0,.bool false]
theorem yu [i:aq L dx b s C](hK:G w0 L (K (Iz s a))):G w0 L (CP Tryz.prog YE [ptr b 0,i64 a] K):=by
 refine i.ro (fun M hK=>?_) hK
 refine yh ?_
 unfold il
 refine G.box fun x1=>?_
 refine G.new fun x2=>?_
 refine G.new fun x3=>?_
 refine G.take1 dx b ?_
 rw [gj]
 rintro v l ⟨hv,hs,hl⟩
 have hll:(ik l).length=l.length:=by simp
 have h4:=hs.six
 have h5:=PA hl
 have hrev:(kJ (ik l).length).map (fun i=>z6 l i.1)=s.r::s.up:=by rw [HD,hl];simp
 refine gr ?_
 refine fw ?_
 unfold dy
 refine G.box (cs:=[v]) fun d=>?_
 refine G.backP (v:=v) (rows:=ik l) (fun _=>own d [v]::own b [i64 s.most,v]::sl gX v (ik l)::ob sj b l::own x3 [.bool false]::own x2 [u64 0]::own x1 [i64 a]::M)
  (fun pre=>own d [v]::own b [i64 s.most,v]::sl gX v (ik l)::ob sj b l::own x3 [.bool true]::own x2 [u64 (match pre.getLast? with | some i=>(fl (z6 l i.1).c a).getD 0 | none=>0)]::own x1 [i64 a]::M)
  (fun pre=>∀i∈pre,fl (z6 l i.1).c a=none) (fun pre=>∃pre' i x,pre=pre'++[i]∧(∀i∈pre',fl (z6 l i.1).c a=none)∧fl (z6 l i.1).c a=some x)
  (by omega) (fun pre W H=>⟨H.own_mem.2.1,(H.drop.drop).sl_is⟩) rfl (by simp) (fun k m pre i J R hp hJ hR=>?_) (fun k m K' hp hk=>?_) (fun k m K' pre hpre hp hk=>?_)
 ·have hk2:i.1<l.length:=by have:=i.2;omega
  obtain⟨p,c,hx,e,hk3,e2⟩:=Rr hk2
  have ep:(ik l)[i.1]=p:=by have:=e.eq;rw [List.getElem?_eq_getElem i.2] at this;exact Option.some.inj this
  generalize hr:l[i.1].2.2=r at hx
  have hat:=M8 hx
  rw [ep]
  refine gg ?_
  refine G.take1 sj b ?_
  rw [Ck hx,fE]
  intro v2 hv2
  refine gg ?_
  refine pE (cs:=r.c) (most:=96) ?_
  cases hi:fl r.c a with
  | some y =>
   simp only [E9,hi]
   refine gg ?_
   refine fb p c r hv2 ?_
   refine wB (b:=b) hx ?_
   have h:=hR ⟨pre,i,y,rfl,hp,by rw [hat];exact hi⟩
   simp only [List.getLast?_append,List.getLast?_singleton,Option.some_or,hat,hi,Option.getD_some] at h
   exact h.sub
  | none =>
   simp only [E9,hi]
   refine gg ?_
   refine fb p c r hv2 ?_
   refine wB (b:=b) hx ?_
   refine(hJ fun j hj=>?_).sub
   rcases List.mem_append.1 hj with h | h
   ·exact hp j h
   ·rw [List.mem_singleton.1 h,hat];exact hi
 ·have hn:qj (s.r::s.up) a=none:=by
   rw [←hrev]
   refine EL fun q hq=>?_
   obtain⟨j,hj,rfl⟩:=List.mem_map.1 hq
   exact hp j hj
  simp only [Iz,hn] at hK
  refine gg ?_
  refine hk _ _ ?_
  rw [gj] at hK
  exact(hK v l ⟨hv,hs,hl⟩).sub
 ·obtain⟨pre',i,y,rfl,h1,h2⟩:=hp
  obtain⟨rest,hrest⟩:=hpre
  have hn:qj (s.r::s.up) a=some y:=by
   rw [←hrev,←hrest,List.append_assoc,List.map_append]
   refine HJ h2 fun q hq=>?_
   obtain⟨j,hj,rfl⟩:=List.mem_map.1 hq
   exact h1 j hj
  simp only [Iz,hn] at hK
  simp only [List.getLast?_append,List.getLast?_singleton,Option.some_or,h2,Option.getD_some]
  refine gg ?_
  refine hk _ _ ?_
  rw [gj] at hK
  exact(hK v l ⟨hv,hs,hl⟩).sub
end
end Go.Proofs.YtoealglbimbbmaaGreatDoor.S
namespace Go.Proofs.YtoealglbimbbmaaGreatDoor.S
open Go Go.Proofs
set_option linter.unusedVariables false
set_option linter.unusedSimpArgs false
section
variable {w0:bh}{L M:List ay}{K:KV}{F:World→Prop}{C:ay→List ay}{b p c k:Nat}{a x n:Int}{r:Lv}{s:kh}{us:List (Nat×Nat×Lv)}{v:Value}{l:List au}
theorem F7 {α:Type}{E:jS α}(b:Nat)(xs:List α) [ez [own b [v],sl E v xs] L M](hv:ar v [v])(H:G w0 (ob (kj E) b xs::M) F):G w0 L F :=
 G.pickAll (As:=[own b [v],sl E v xs]) (by rw [eK] at H;exact H v hv)
theorem R2 (l:List (Nat×Nat×Lv)){m:Nat}(pre:List (Fin m)):((pre.map fun i=>z6 l i.1).foldl FP []).length≤96:=by
 generalize pre.map (fun i=>z6 l i.1)=z
 have:∀(z:List Lv) (out:List au),out.length≤96→(z.foldl FP out).length≤96:=fun z=>by
  induction z with
  | nil=>exact fun out h=>h
  | cons r z ih=>exact fun out _=>ih _ RW
 exact this z [] (by simp)
theorem uW [i:aq L dx b s C](hK:∀u,ar u [u]→G w0 (sl bf u s.cells::L) (K u)):G w0 L (CP Tryz.prog Yl [ptr b 0] K):=by
 refine i.roN (fun M hK=>?_) hK
 refine uZ ?_
 unfold gJ
 refine G.new fun x1=>?_
 refine G.take1 dx b ?_
 rw [gj]
 rintro v l ⟨hv,hs,hl⟩
 have hll:(ik l).length=l.length:=by simp
 have h4:=hs.six
 have h5:=PA hl
 have hrev:(kJ (ik l).length).map (fun i=>z6 l i.1)=s.r::s.up:=by rw [HD,hl];simp
 refine G.nilsl bf ?_
 refine F7 (E:=bf) (v:=.slice none 0 0) x1 [] be ?_
 refine gr ?_
 refine fw ?_
 unfold dy
 refine G.box (cs:=[v]) fun d=>?_
 refine G.backP (v:=v) (rows:=ik l) (fun pre=>own d [v]::ob (kj bf) x1 ((pre.map fun i=>z6 l i.1).foldl FP [])::own b [i64 s.most,v]::sl gX v (ik l)::ob sj b l::M)
  (fun pre=>[]) (fun pre=>True) (fun pre=>False)
  (by omega) (fun pre W H=>⟨H.own_mem.2.1,(H.drop.drop.drop).sl_is⟩) rfl trivial (fun k m pre i J R _ hJ hR=>?_) (fun k m K' _ hk=>?_) (fun k m K' pre hpre hp hk=>hp.elim)
 ·have hk2:i.1<l.length:=by have:=i.2;omega
  obtain⟨p,c,hx,e,hk3,e2⟩:=Rr hk2
  have ep:(ik l)[i.1]=p:=by have:=e.eq;rw [List.getElem?_eq_getElem i.2] at this;exact Option.some.inj this
  generalize hr:l[i.1].2.2=r at hx
  have hat:=M8 hx
  have hle:=R2 l pre
  have hJ:=hJ trivial
  rw [List.map_append,List.foldl_append] at hJ
  simp only [List.map_cons,List.map_nil,List.foldl_cons,List.foldl_nil,hat] at hJ
  generalize (pre.map fun i=>z6 l i.1).foldl FP []=out at hle hJ ⊢
  rw [show FP out r=(mh 96 (mh 96 [] r.c).1 out).1 from rfl] at hJ
  rw [ep]
  refine tv fun w=>?_
  rw [show held 96 0 96=96 from rfl]
  refine gg ?_
  refine G.take1 sj b ?_
  rw [Ck hx,fE]
  intro v2 hv2
  refine G.take1 (kj bf) x1 ?_
  rw [eK]
  intro v3 hv3
  refine G.okW (b:=c) (most:=96) (cs:=r.c) fun hw=>?_
  have hrl:(r.c.length:Int)≤96:=hw.len
  refine gg ?_
  refine gc (cs:=r.c) (most:=96) fun u hu=>?_
  repeat' (first | (with_reducible refine G.joini0 ?_) | (with_reducible refine G.joini1 ?_) | (with_reducible refine G.drew ?_) | (simp (maxSteps:=2000000) only [↓RG,RP,RB,BEq.rfl,Int.reduceEq,Int.reduceLT,Int.reduceLE,Nat.reduceEqDiff]))
  refine gY (cs:=[]) (most:=96) (l:=r.c) (by omega) ?_
  refine gg ?_
  refine gY (cs:=(mh 96 [] r.c).1) (most:=96) (l:=out) (by omega) ?_
  repeat' (first | (with_reducible refine G.joini0 ?_) | (with_reducible refine G.joini1 ?_) | (with_reducible refine G.drew ?_) | (simp (maxSteps:=2000000) only [↓RG,RP,RB,BEq.rfl,Int.reduceEq,Int.reduceLT,Int.reduceLE,Nat.reduceEqDiff]))
  refine gc (cs:=(mh 96 (mh 96 [] r.c).1 out).1) (most:=96) fun u2 hu2=>?_
  refine gg ?_
  refine fb p c r hv2 ?_
  refine wB (b:=b) hx ?_
  refine F7 (E:=bf) x1 (mh 96 (mh 96 [] r.c).1 out).1 hu2 ?_
  exact hJ.sub
 ·rw [hrev,PD hs]
  refine G.take1 (kj bf) x1 ?_
  rw [eK]
  intro u hu
  refine gg ?_
  refine hk _ _ ?_
  have hK:=hK u hu
  rw [fA,gj] at hK
  exact(hK v l ⟨hv,hs,hl⟩).sub
theorem Md {k:Nat}{z:kh}(hk:k<l.length)(hp:jk s l=jk z (l.drop k)) :
  (mn z l[k].place=0→jk s l=jk (z.put l[k].place l[k].word) (l.drop (k+1)))∧(mn z l[k].place≠0→jk s l=(z,mn z l[k].place)):=by
 have e:∀(z:kh) (c:au) (l:List au),jk z (c::l)=if mn z c.place=0 then jk (z.put c.place c.word) l else (z,mn z c.place):=fun _ _ _=>rfl
 rw [List.drop_eq_getElem_cons hk,e] at hp
 exact⟨fun h=>by rw [hp,if_pos h],fun h=>by rw [hp,if_neg h]⟩
theorem wY [i:aq L dx b s C][r:∀A,Rd w0 (C A) v bf 2 l](hl:l.length≤1000000)(hK:G w0 (C (ob dx b (pu s l).1)) (K (i64 (pu s l).2))):G w0 L (CP Tryz.prog YF [ptr b 0,v] K):=by
 refine G.okL (b:=b) (s:=s) fun hs=>?_
 have ho:=hs.ok s.r (by simp)
 have h6:=hs.six
 have h1:=hs.len
 have h2:=hs.hi
 rw [ev] at h1
 refine i.useM (fun M hM hK=>?_) hK
 have r':=Rd.frame hM r
 refine xk ?_
 unfold n6
 refine tv fun w=>?_
 rw [show held 96 0 96=96 from rfl]
 refine G.take1 dx b ?_
 rw [hC]
 rintro vv p c us ⟨hv,_,hu⟩
 have hul:=zT hu
 refine N6 (by omega) ?_
 refine G.take1 f8 p ?_
 rw [fE]
 intro v2 hv2
 refine gg ?_
 refine gc (cs:=s.r.c) (most:=96) fun u hu2=>?_
 repeat' (first | (with_reducible refine G.joini0 ?_) | (with_reducible refine G.joini1 ?_) | (with_reducible refine G.drew ?_) | (simp (maxSteps:=2000000) only [↓RG,RP,RB,BEq.rfl,Int.reduceEq,Int.reduceLT,Int.reduceLE,Nat.reduceEqDiff]))
 refine gY (cs:=[]) (most:=96) (l:=s.r.c) (by omega) ?_
 rw [tx (most:=96) (cs:=[]) ho.places (by simp;omega),ho.self]
 refine fb p c s.r hv2 ?_
 refine fk b s us p c rfl ⟨hv,hs,hu⟩ ?_
 refine gg ?_
 refine G.loop1 (σ:=Nat×kh) (fun z=>i64 z.1) (fun z=>ob dx b z.2::sl bf u s.r.c::ob gm w (96,s.r.c)::M) (fun z=>z.1≤l.length∧jk s l=jk z.2 (l.drop z.1)∧z.2.most=s.most∧z.2.up=s.up∧z.2.r.f=s.r.f) (fun z=>l.length-z.1) (0,s) rfl rfl ⟨by simp,by simp,rfl,rfl,rfl⟩ ?_
 rintro⟨k,z⟩ ⟨hk,hp,e1,e2,e3⟩ J hJ
 simp only at hk hp e1 e2 e3 hJ ⊢
 refine gr ?_
 refine G.cond (fun h=>?_) (fun h=>?_)
 ·have hk2:k<l.length:=by simpa using h
  have e:=ct hk2
  obtain⟨p1,p2⟩:=Md hk2 hp
  refine gr ?_
  refine G.new fun q=>?_
  refine gr ?_
  refine py (s:=z) ?_
  refine gr ?_
  refine G.cond (fun h=>?_) (fun h=>?_)
  ·have h0:mn z l[k].place≠0:=by simpa using h
   have p3:=p2 h0
   rw [if_neg h0]
   have h4:pu s l=(s,mn z l[k].place):=by
    unfold pu;rw [p3];simp [h0]
   rw [h4] at hK
   refine G.take1 dx b ?_
   rw [hC]
   rintro v4 p4 c4 us4 ⟨hv4,_,hu4⟩
   have hul4:=zT hu4
   rw [e2] at hul4 hu4
   refine N6 (by omega) ?_
   refine G.take1 f8 p4 ?_
   rw [fE]
   intro v5 hv5
   rw [e3]
   rw [e1]
   refine gg ?_
   refine fb p4 w ⟨s.r.c,s.r.f⟩ hv5 ?_
   refine fk b s us4 p4 w rfl ⟨hv4,hs,hu4⟩ ?_
   exact hK.sub
  ·have h0:mn z l[k].place=0:=by simpa using h
   rw [if_pos h0]
   refine gr ?_
   rw [di (by omega)]
   exact(hJ (k+1,z.put l[k].place l[k].word) ⟨hk2,p1 h0,e1,e2,e3⟩ (by simp;omega)).sub
 ·have:l.drop k=[]:=List.drop_eq_nil_of_le (by simpa using h)
  rw [this] at hp
  have h4:pu s l=(z,0):=by
   unfold pu;rw [hp];simp [jk]
  rw [h4] at hK
  exact hK.sub
end
end Go.Proofs.YtoealglbimbbmaaGreatDoor.S
