import Derived.Test.YtoealglbimbbmaaGreatDoorBook
namespace Go.Proofs.YtoealglbimbbmaaGreatDoor.S
open Go Go.Proofs
set_option linter.unusedVariables false
set_option linter.unusedSimpArgs false
def iT:List aw→Int→Option Nat
 | [],_=>none
 | c::cs,a=>if c.place=a then some 0 else (iT cs a).map (·+1)
def L7 (cs:List aw)(a:Int):Int:=match iT cs a with | some k=>k | none=>-1
def iD:List aw→Int→Int→List aw
 | [],a,x=>[⟨a,x⟩]
 | c::cs,a,x=>if c.place=a then ⟨a,x⟩::cs else c::iD cs a x
def eI:List aw→Int→Option Int
 | [],_=>none
 | c::cs,a=>if c.place=a then some c.word else eI cs a
def iG (cs l:List aw):List aw:=l.foldl (fun cs c=>iD cs c.place c.word) cs
def yU (a:Int):Bool:=decide (1≤a) && decide (a<256)
structure Jm (cs:List aw):Prop where
 places:∀c∈cs,yU c.place=true
 nodup:(cs.map (·.place)).Nodup
theorem QM {c:aw}{cs:List aw}{a:Int}:iT (c::cs) a=if c.place=a then some 0 else (iT cs a).map (·+1):=rfl
theorem Bv {a:Int}:yU a=true↔1≤a∧a<256:=by simp [yU]
theorem iQ {a:Int}:∀{cs:List aw},iT cs a=none→(∀x,iD cs a x=cs++[⟨a,x⟩])∧eI cs a=none∧∀c∈cs,c.place≠a
 | [],_=>⟨fun _=>rfl,rfl,by simp⟩
 | c::cs,h=>by
  unfold iT at h
  split at h
  ·cases h
  ·rename_i hc
   obtain⟨h1,h2,h3⟩:=iQ (cs:=cs) (by simpa using h)
   refine⟨fun x=>by simp [iD,hc,h1],by simp [eI,hc,h2],fun d hd=>?_⟩
   rcases List.mem_cons.1 hd with rfl | hd
   ·exact hc
   ·exact h3 d hd
theorem mP {a:Int}:∀{cs:List aw}{k:Nat},iT cs a=some k→∃h:k<cs.length,cs[k].place=a∧(∀x,iD cs a x=cs.set k ⟨a,x⟩)∧eI cs a=some cs[k].word
 | [],k,h=>by cases h
 | c::cs,k,h=>by
  unfold iT at h
  split at h
  ·rename_i hc
   cases h
   exact⟨by simp,hc,fun x=>by simp [iD,hc],by simp [eI,hc]⟩
  ·rename_i hc
   cases hi:iT cs a with
   | none=>rw [hi] at h;cases h
   | some j =>
    rw [hi] at h
    cases h
    obtain⟨h1,h2,h3,h4⟩:=mP hi
    exact⟨by simp;omega,by simpa using h2,fun x=>by simp [iD,hc,h3],by simp [eI,hc,h4]⟩
theorem xr {cs:List aw}{a:Int}:(iT cs a).isSome=(eI cs a).isSome:=by
 cases h:iT cs a with
 | none=>rw [(iQ h).2.1];rfl
 | some k=>obtain⟨_,_,_,h4⟩:=mP h;rw [h4];rfl
theorem ww {cs:List aw}{a x:Int}:(iD cs a x).length=if (iT cs a).isSome then cs.length else cs.length+1:=by
 cases h:iT cs a with
 | none=>simp [(iQ h).1]
 | some k=>obtain⟨_,_,h3,_⟩:=mP h;simp [h3]
theorem O6 {cs:List aw}{a x:Int}:cs.length≤(iD cs a x).length∧(iD cs a x).length≤cs.length+1:=by
 rw [ww];split <;> omega
theorem MT {a x:Int}:∀{cs:List aw}{c:aw},c∈iD cs a x→c∈cs∨c.place=a
 | [],c,h=>by simp [iD] at h;subst h;exact .inr rfl
 | d::cs,c,h=>by
  unfold iD at h
  split at h
  ·rcases List.mem_cons.1 h with rfl | h
   ·exact .inr rfl
   ·exact .inl (List.mem_cons_of_mem _ h)
  ·rcases List.mem_cons.1 h with rfl | h
   ·exact .inl (by simp)
   ·rcases MT h with h | h
    ·exact .inl (List.mem_cons_of_mem _ h)
    ·exact .inr h
theorem D8 {a x:Int}:∀{cs:List aw},(iD cs a x).map (·.place)=if (iT cs a).isSome then cs.map (·.place) else cs.map (·.place)++[a]
 | []=>by simp [iD,iT]
 | c::cs=>by
  unfold iD iT
  split
  ·rename_i h;simp [h]
  ·simp only [List.map_cons,D8 (cs:=cs),Option.isSome_map]
   split <;> simp
theorem Jm.nil:Jm []:=⟨by simp,by simp⟩
theorem Jm.put {cs:List aw}{a x:Int}(h:Jm cs)(ha:yU a=true):Jm (iD cs a x):=by
 refine⟨fun c hc=>?_,?_⟩
 ·rcases MT hc with h1 | h1
  ·exact h.places c h1
  ·rw [h1];exact ha
 ·rw [D8]
  cases hi:iT cs a with
  | some k=>simpa using h.nodup
  | none =>
   have h3:=(iQ hi).2.2
   simp only [Option.isSome_none,Bool.false_eq_true,if_false]
   rw [List.nodup_append]
   refine⟨h.nodup,by simp,fun p hp q hq=>?_⟩
   simp only [List.mem_singleton] at hq
   obtain⟨c,hc,rfl⟩:=List.mem_map.1 hp
   subst hq
   exact h3 c hc
theorem I1 {a x b:Int}:∀{cs:List aw},eI (iD cs a x) b=if a=b then some x else eI cs b
 | []=>by simp [iD,eI]
 | c::cs=>by
  unfold iD
  by_cases hc:c.place=a
  ·simp only [hc,if_true,eI]
   by_cases hb:a=b <;> simp [hb]
  ·simp only [hc,if_false,eI,I1 (cs:=cs)]
   by_cases hb:a=b
   ·subst hb;simp [hc]
   ·simp [hb]
theorem tT {cs l:List aw}{c:aw}:iG cs (c::l)=iG (iD cs c.place c.word) l:=rfl
theorem Jm.puts:∀{l cs:List aw},Jm cs→(∀c∈l,yU c.place=true)→Jm (iG cs l)
 | [],cs,h,_=>h
 | c::l,cs,h,hl=>by rw [tT];exact Jm.puts (h.put (hl c (by simp))) (fun d hd=>hl d (by simp [hd]))
theorem IW:∀{l cs:List aw},((cs++l).map (·.place)).Nodup→iG cs l=cs++l
 | [],cs,_=>by simp [iG]
 | c::l,cs,h=>by
  have hi:iT cs c.place=none:=by
   cases hi:iT cs c.place with
   | none=>rfl
   | some k =>
    obtain⟨h1,h2,_⟩:=mP hi
    rw [List.map_append,List.nodup_append] at h
    exact absurd h2 (h.2.2 _ (List.mem_map.2 ⟨cs[k],List.getElem_mem h1,rfl⟩) _ (by simp))
  rw [tT,(iQ hi).1,IW (by simpa using h)]
  simp
theorem Jm.self {cs:List aw}(h:Jm cs):iG [] cs=cs:=by rw [IW (by simpa using h.nodup)];rfl
theorem Ct:∀{l cs:List aw},cs.length≤(iG cs l).length∧(iG cs l).length≤cs.length+l.length
 | [],cs=>by simp [iG]
 | c::l,cs=>by
  have h1:=Ct (l:=l) (cs:=iD cs c.place c.word)
  have h2:=O6 (cs:=cs) (a:=c.place) (x:=c.word)
  rw [tT];simp only [List.length_cons];omega
theorem Qw {cs:List aw}{a:Int}{k:Nat}(h:k<cs.length)(hp:iT cs a=(iT (cs.drop k) a).map (·+k)) :
  (cs[k].place=a→iT cs a=some k)∧(cs[k].place≠a→iT cs a=(iT (cs.drop (k+1)) a).map (·+(k+1))):=by
 rw [List.drop_eq_getElem_cons h,QM] at hp
 refine⟨fun e=>by rw [hp,if_pos e];simp,fun e=>?_⟩
 rw [hp,if_neg e,Option.map_map]
 congr 1
 funext n
 show n+1+k=n+(k+1)
 omega
def lS (most:Int)(cs:List aw)(a:Int):Int:=if yU a then (if (iT cs a).isSome then 0 else if most≤cs.length then 5 else 0) else 2
def jZ (most:Int):List aw→List aw→List aw×Int
 | cs,[]=>(cs,0)
 | cs,c::l=>if lS most cs c.place=0 then jZ most (iD cs c.place c.word) l else (cs,lS most cs c.place)
theorem Om {most:Int}{cs l:List aw}{c:aw}:jZ most cs (c::l)=if lS most cs c.place=0 then jZ most (iD cs c.place c.word) l else (cs,lS most cs c.place):=rfl
def lK (most:Int)(cs l:List aw):List aw×Int:=if (jZ most cs l).2=0 then ((jZ most cs l).1,0) else (cs,(jZ most cs l).2)
theorem Hb {most:Int}:∀{l cs:List aw},(jZ most cs l).2=0→(jZ most cs l).1=iG cs l
 | [],cs,_=>rfl
 | c::l,cs,h=>by
  unfold jZ at h ⊢
  split at h
  ·rename_i h0;rw [if_pos h0,tT];exact Hb h
  ·rename_i h0;exact absurd h h0
theorem GD {most:Int}:∀{l cs:List aw},(∀c∈l,yU c.place=true)→(cs.length+l.length:Int)≤most→(jZ most cs l).2=0
 | [],cs,_,_=>rfl
 | c::l,cs,h,hl=>by
  simp only [List.length_cons] at hl
  have h0:lS most cs c.place=0:=by
   unfold lS
   rw [if_pos (h c (by simp))]
   split
   ·rfl
   ·rw [if_neg (by omega)]
  unfold jZ
  rw [if_pos h0]
  have:=O6 (cs:=cs) (a:=c.place) (x:=c.word)
  exact GD (fun d hd=>h d (by simp [hd])) (by omega)
theorem AE {most:Int}{l cs:List aw}(h:∀c∈l,yU c.place=true)(hl:(cs.length+l.length:Int)≤most):lK most cs l=(iG cs l,0):=by
 have h0:=GD h hl
 unfold lK
 rw [if_pos h0,Hb h0]
structure Ji (most:Int)(cs:List aw):Prop where
 lo:0≤most
 hi:most≤96
 len:(cs.length:Int)≤most
 ok:Jm cs
theorem Ji.put {most:Int}{cs:List aw}{a x:Int}(h:Ji most cs)(he:lS most cs a=0):Ji most (iD cs a x):=by
 unfold lS at he
 split at he
 ·rename_i ha
  refine⟨h.lo,h.hi,?_,h.ok.put ha⟩
  rw [ww]
  have:=h.len
  split at he
  ·rename_i hs;rw [if_pos hs];exact h.len
  ·rename_i hs
   rw [if_neg hs]
   split at he
   ·cases he
   ·omega
 ·cases he
theorem Ji.puts {most:Int}:∀{l cs:List aw},Ji most cs→Ji most (jZ most cs l).1
 | [],cs,h=>h
 | c::l,cs,h=>by
  unfold jZ
  split
  ·rename_i h0;exact Ji.puts (h.put h0)
  ·exact h
theorem Ji.take {most:Int}{cs l:List aw}(h:Ji most cs):Ji most (lK most cs l).1:=by
 unfold lK
 split
 ·exact h.puts
 ·exact h
def fL (b:Nat)(s:Int×List aw):ax:=jX fun v=>bu (fS (av v [v]∧Ji s.1 s.2)) (bu (own b [i64 s.1,v]) (sl bd v s.2))
section
variable {w0:bg}{L M:List ax}{K:KV}{F:World→Prop}{C:ax→List ax}{b:Nat}{most a x:Int}{cs l:List aw}
theorem dT {s:Int×List aw}:G w0 (ob fL b s::M) F=∀v,(av v [v]∧Ji s.1 s.2)→G w0 (own b [i64 s.1,v]::sl bd v s.2::M) F:=by
 rw [dO,fL]
 simp only [lT,dP,eS]
theorem G.okW [i:al L fL b (most,cs) C](h:Ji most cs→G w0 L F):G w0 L F:=by
 by_cases hw:Ji most cs
 ·exact h hw
 ·refine i.ro (F':=fun _=>True) (fun M _=>?_) (fun _ _=>trivial)
  rw [dT]
  exact fun v hv=>absurd hv.2 hw
theorem tO {n:Int}(hK:∀b,G w0 (ob fL b (held n 0 96,[])::L) (K (ptr b 0))):G w0 L (CP Tryz.prog XP [i64 n] K):=by
 refine KE ?_
 unfold BG
 refine gr ?_
 have hb:=eQ (n:=n) (show (0:Int)≤96 by omega)
 have e3:(if (if (96:Int)<n then (96:Int) else n) > 0 then (if (96:Int)<n then (96:Int) else n) else 0)=held n 0 96:=by
  unfold held;split <;> split <;> split <;> (try split) <;> omega
 rw [e3]
 refine G.nilsl bd ?_
 refine G.box fun b=>?_
 have:=hK b
 rw [dT] at this
 exact this _ ⟨bf,hb.1,hb.2,by simpa using hb.1,.nil⟩
theorem Ex {c:aw}{q:Nat}{C:ax→List ax}[i:al L gI q [i64 a] C](hK:G w0 L (K (.bool (decide (c.place=a))))):G w0 L (CP Tryz.prog Zw [.agg (aw.cells c).toArray,ptr q 0] K):=by
 refine t4 ?_
 unfold lD
 refine G.box fun p=>?_
 refine gr ?_
 exact hK.sub
theorem MJ {v:Value}{q:Nat}[r:Rd w0 L v bd 2 cs][i:al L gI q [i64 a] C](hl:cs.length≤1000000)(hK:G w0 L (K (i64 (L7 cs a)))) :
  G w0 L (CP Tryz.prog ab4 [v,.func (.func Zw) #[] #[ptr q 0]] K):=by
 refine jJ ?_
 unfold fH
 refine gr ?_
 refine G.loop1 (fun k:Nat=>i64 k) (fun _=>L) (fun k=>k≤cs.length∧iT cs a=(iT (cs.drop k) a).map (·+k)) (fun k=>cs.length-k) 0 rfl rfl ⟨by omega,by simp⟩ ?_
 rintro k ⟨hk,hp⟩ J hJ
 refine gr ?_
 refine G.cond (fun h=>?_) (fun h=>?_)
 ·have hk2:k<cs.length:=by simpa using h
  have e:=cW hk2
  obtain⟨p1,p2⟩:=Qw hk2 hp
  refine gr ?_
  refine Ex (c:=cs[k]) (a:=a) ?_
  refine G.cond (fun h=>?_) (fun h=>?_)
  ·unfold L7 at hK
   rw [p1 (by simpa using h)] at hK
   exact hK
  ·refine gr ?_
   rw [dt (by omega)]
   exact hJ (k+1) ⟨hk2,p2 (by simpa using h)⟩ (by omega)
 ·have:cs.drop k=[]:=List.drop_eq_nil_of_le (by simpa using h)
  rw [this] at hp
  unfold L7 at hK
  rw [hp] at hK
  exact hK
theorem nS [i:al L fL b (most,cs) C](hK:G w0 L (K (i64 (L7 cs a)))):G w0 L (CP Tryz.prog Zt [ptr b 0,i64 a] K):=by
 refine i.ro (fun M hK=>?_) hK
 refine wj ?_
 unfold nZ
 rw [dT] at *
 rintro v ⟨hv,hw⟩
 have h1:(cs.length:Int)≤most:=hw.len
 have h2:most≤96:=hw.hi
 refine G.box fun q=>?_
 refine gr ?_
 refine MJ (cs:=cs) (by omega) ?_
 exact(hK v ⟨hv,hw⟩).sub
theorem Jo {k:Nat}(h:iT cs a=some k):L7 cs a=k:=by unfold L7;rw [h]
theorem IK (h:iT cs a=none):L7 cs a=-1:=by unfold L7;rw [h]
def F6 (cs:List aw)(a:Int):Value:=match eI cs a with | some x=>.tuple #[u64 x,.bool true] | none=>.tuple #[u64 0,.bool false]
theorem pj [i:al L fL b (most,cs) C](hK:G w0 L (K (F6 cs a))):G w0 L (CP Tryz.prog Yh [ptr b 0,i64 a] K):=by
 refine yI ?_
 unfold pd
 refine nS (cs:=cs) (most:=most) ?_
 cases hi:iT cs a with
 | none =>
  have:=(iQ hi).2.1
  simp only [F6,this] at hK
  rw [IK hi]
  refine gr ?_
  exact hK
 | some k =>
  obtain⟨hk,_,_,h4⟩:=mP hi
  simp only [F6,h4] at hK
  rw [Jo hi]
  have h0:decide (0≤(k:Int))=true:=by simp
  have e:=cW hk
  refine i.ro (fun M hK=>?_) hK
  rw [dT] at *
  intro v hv
  have hK:=hK v hv
  refine dN h0 ?_
  exact hK
theorem jF [i:al L fL b (most,cs) C](hK:G w0 (C (ob fL b (most,if lS most cs a=0 then iD cs a x else cs))) (K (i64 (lS most cs a)))):G w0 L (CP Tryz.prog Zn [ptr b 0,i64 a,u64 x] K):=by
 refine i.use (fun M hK=>?_) hK
 refine yS ?_
 unfold oT
 refine gu ?_
 refine gr ?_
 refine G.cond (fun h=>?_) (fun h=>?_)
 ·have h0:lS most cs a=2:=by unfold lS;rw [if_neg];rw [Bv];simp at h;omega
  rw [h0] at hK
  exact hK
 ·have ha:yU a=true:=by rw [Bv];simp at h;omega
  refine nS (cs:=cs) (most:=most) ?_
  cases hi:iT cs a with
  | none =>
   rw [IK hi]
   have e1:=(iQ hi).1 x
   rw [dT]
   rintro v ⟨hv,hw⟩
   have b1:(cs.length:Int)≤most:=hw.len
   have b2:most≤96:=hw.hi
   by_cases hm:most≤cs.length
   ·have h0:lS most cs a=5:=by unfold lS;rw [if_pos ha,hi];simp [hm]
    rw [h0,if_neg (by decide),dT] at hK
    repeat' (first | (with_reducible refine G.joini0 ?_) | (with_reducible refine G.joini1 ?_) | (with_reducible refine G.drew ?_) | (simp (maxSteps:=2000000) only [↓RG,RP,RB,BEq.rfl,Int.reduceEq,Int.reduceLT,Int.reduceLE,Nat.reduceEqDiff,hm]))
    exact hK v ⟨hv,hw⟩
   ·have h0:lS most cs a=0:=by unfold lS;rw [if_pos ha,hi];simp [hm]
    have hw2:=hw.put (x:=x) h0
    rw [h0,if_pos rfl,dT] at hK
    repeat' (first | (with_reducible refine G.joini0 ?_) | (with_reducible refine G.joini1 ?_) | (with_reducible refine G.drew ?_) | (simp (maxSteps:=2000000) only [↓RG,RP,RB,BEq.rfl,Int.reduceEq,Int.reduceLT,Int.reduceLE,Nat.reduceEqDiff,hm]))
    refine G.append1 (E:=bd) (a:=⟨a,x⟩) rfl rfl (by decide) (by omega) (by simp only [maxLen];omega) fun u hu=>?_
    refine gr ?_
    have hK:=hK u ⟨hu,hw2⟩
    simp only [e1] at hK
    exact hK
  | some k =>
   obtain⟨hk,h2,h3,_⟩:=mP hi
   have h0:lS most cs a=0:=by unfold lS;rw [if_pos ha,hi];simp
   rw [Jo hi]
   have h5:decide (0≤(k:Int))=true:=by simp
   have e:=cW hk
   rw [dT]
   rintro v ⟨hv,hw⟩
   have hw2:=hw.put (x:=x) h0
   rw [h0,if_pos rfl,dT] at hK
   have hK:=hK v ⟨hv,hw2⟩
   simp only [h3] at hK
   refine dN h5 ?_
   rw [h2]
   exact hK
theorem gM [i:al L fL b (most,cs) C](hK:∀u,av u [u]→G w0 (sl bd u cs::L) (K u)):G w0 L (CP Tryz.prog Xs [ptr b 0] K):=by
 refine i.roN (fun M hK=>?_) hK
 rw [dT]
 rintro v ⟨hv,hw⟩
 have b1:(cs.length:Int)≤most:=hw.len
 have b2:most≤96:=hw.hi
 refine yy ?_
 unfold oS
 refine gr ?_
 refine dV (xs:=cs) (by omega) fun u hu=>?_
 have:=hK u hu
 rw [eN,dT] at this
 exact G.sub (this v ⟨hv,hw⟩)
theorem yO [i:al L fL b (most,cs) C](hK:G w0 L (K (i64 cs.length))):G w0 L (CP Tryz.prog ab8 [ptr b 0] K):=by
 refine i.ro (fun M hK=>?_) hK
 rw [dT] at *
 intro v hv
 refine yN ?_
 unfold oX
 refine gr ?_
 exact hK v hv
theorem Nr {k:Nat}{z:List aw}(hk:k<l.length)(hp:jZ most cs l=jZ most z (l.drop k)) :
  (lS most z l[k].place=0→jZ most cs l=jZ most (iD z l[k].place l[k].word) (l.drop (k+1)))∧(lS most z l[k].place≠0→jZ most cs l=(z,lS most z l[k].place)):=by
 rw [List.drop_eq_getElem_cons hk,Om] at hp
 exact⟨fun h=>by rw [hp,if_pos h],fun h=>by rw [hp,if_neg h]⟩
theorem jn {v:Value}[i:al L fL b (most,cs) C][r:∀A,Rd w0 (C A) v bd 2 l](hl:l.length≤1000000)
  (hK:G w0 (C (ob fL b (most,(lK most cs l).1))) (K (i64 (lK most cs l).2))):G w0 L (CP Tryz.prog Xz [ptr b 0,v] K):=by
 refine G.okW (b:=b) (most:=most) (cs:=cs) fun hw=>?_
 refine i.useM (fun M hM hK=>?_) hK
 have r':=Rd.frame hM r
 refine w9 ?_
 unfold ou
 refine gM (cs:=cs) (most:=most) fun u hu=>?_
 refine gr ?_
 refine G.loop1 (σ:=Nat×List aw) (fun s=>i64 s.1) (fun s=>sl bd u cs::ob fL b (most,s.2)::M) (fun s=>s.1≤l.length∧jZ most cs l=jZ most s.2 (l.drop s.1)) (fun s=>l.length-s.1) (0,cs) rfl rfl ⟨by simp,by simp⟩ ?_
 rintro⟨k,z⟩ ⟨hk,hp⟩ J hJ
 simp only at hk hp hJ ⊢
 refine gr ?_
 refine G.cond (fun h=>?_) (fun h=>?_)
 ·have hk2:k<l.length:=by simpa using h
  have e:=cW hk2
  obtain⟨p1,p2⟩:=Nr hk2 hp
  refine gr ?_
  refine G.new fun q=>?_
  refine gr ?_
  refine jF (cs:=z) (most:=most) ?_
  refine gr ?_
  refine G.cond (fun h=>?_) (fun h=>?_)
  ·have h0:lS most z l[k].place≠0:=by simpa using h
   have p3:=p2 h0
   rw [if_neg h0]
   have h4:lK most cs l=(cs,lS most z l[k].place):=by
    unfold lK;rw [p3];simp [h0]
   rw [h4,dT] at hK
   refine G.take1 fL b ?_
   rw [dT]
   rintro v2 ⟨hv2,_⟩
   refine gr ?_
   exact(hK u ⟨hu,hw⟩).sub
  ·have h0:lS most z l[k].place=0:=by simpa using h
   rw [if_pos h0]
   refine gr ?_
   rw [dt (by omega)]
   exact(hJ (k+1,iD z l[k].place l[k].word) ⟨hk2,p1 h0⟩ (by simp;omega)).sub
 ·have:l.drop k=[]:=List.drop_eq_nil_of_le (by simpa using h)
  rw [this] at hp
  have h4:lK most cs l=(z,0):=by
   unfold lK;rw [hp];simp [jZ]
  rw [h4] at hK
  exact hK.sub
end
end Go.Proofs.YtoealglbimbbmaaGreatDoor.S
