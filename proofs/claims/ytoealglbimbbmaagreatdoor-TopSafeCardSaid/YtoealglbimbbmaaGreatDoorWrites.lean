import Derived.Test.YtoealglbimbbmaaGreatDoorBook
namespace Go.Proofs.YtoealglbimbbmaaGreatDoor.S
open Go Go.Proofs
set_option linter.unusedVariables false
set_option linter.unusedSimpArgs false
def iY:List av→Int→Option Nat
 | [],_=>none
 | c::cs,a=>if c.place=a then some 0 else (iY cs a).map (·+1)
def JG (cs:List av)(a:Int):Int:=match iY cs a with | some k=>k | none=>-1
def hZ:List av→Int→Int→List av
 | [],a,x=>[⟨a,x⟩]
 | c::cs,a,x=>if c.place=a then ⟨a,x⟩::cs else c::hZ cs a x
def dD:List av→Int→Option Int
 | [],_=>none
 | c::cs,a=>if c.place=a then some c.word else dD cs a
def iW (cs l:List av):List av:=l.foldl (fun cs c=>hZ cs c.place c.word) cs
def uA (a:Int):Bool:=decide (1≤a) && decide (a<256)
structure zW (cs:List av):Prop where
 places:∀c∈cs,uA c.place=true
 nodup:(cs.map (·.place)).Nodup
theorem Ou {c:av}{cs:List av}{a:Int}:iY (c::cs) a=if c.place=a then some 0 else (iY cs a).map (·+1):=rfl
theorem Ba {a:Int}:uA a=true↔1≤a∧a<256:=by simp [uA]
theorem i6 {a:Int}:∀{cs:List av},iY cs a=none→(∀x,hZ cs a x=cs++[⟨a,x⟩])∧dD cs a=none∧∀c∈cs,c.place≠a
 | [],_=>⟨fun _=>rfl,rfl,by simp⟩
 | c::cs,h=>by
  unfold iY at h
  split at h
  ·cases h
  ·rename_i hc
   obtain⟨h1,h2,h3⟩:=i6 (cs:=cs) (by simpa using h)
   refine⟨fun x=>by simp [hZ,hc,h1],by simp [dD,hc,h2],fun d hd=>?_⟩
   rcases List.mem_cons.1 hd with rfl | hd
   ·exact hc
   ·exact h3 d hd
theorem ll {a:Int}:∀{cs:List av}{k:Nat},iY cs a=some k→∃h:k<cs.length,cs[k].place=a∧(∀x,hZ cs a x=cs.set k ⟨a,x⟩)∧dD cs a=some cs[k].word
 | [],k,h=>by cases h
 | c::cs,k,h=>by
  unfold iY at h
  split at h
  ·rename_i hc
   cases h
   exact⟨by simp,hc,fun x=>by simp [hZ,hc],by simp [dD,hc]⟩
  ·rename_i hc
   cases hi:iY cs a with
   | none=>rw [hi] at h;cases h
   | some j =>
    rw [hi] at h
    cases h
    obtain⟨h1,h2,h3,h4⟩:=ll hi
    exact⟨by simp;omega,by simpa using h2,fun x=>by simp [hZ,hc,h3],by simp [dD,hc,h4]⟩
theorem rh {cs:List av}{a:Int}:(iY cs a).isSome=(dD cs a).isSome:=by
 cases h:iY cs a with
 | none=>rw [(i6 h).2.1];rfl
 | some k=>obtain⟨_,_,_,h4⟩:=ll h;rw [h4];rfl
theorem vz {cs:List av}{a x:Int}:(hZ cs a x).length=if (iY cs a).isSome then cs.length else cs.length+1:=by
 cases h:iY cs a with
 | none=>simp [(i6 h).1]
 | some k=>obtain⟨_,_,h3,_⟩:=ll h;simp [h3]
theorem MF {cs:List av}{a x:Int}:cs.length≤(hZ cs a x).length∧(hZ cs a x).length≤cs.length+1:=by
 rw [vz];split <;> omega
theorem J7 {a x:Int}:∀{cs:List av}{c:av},c∈hZ cs a x→c∈cs∨c.place=a
 | [],c,h=>by simp [hZ] at h;subst h;exact .inr rfl
 | d::cs,c,h=>by
  unfold hZ at h
  split at h
  ·rcases List.mem_cons.1 h with rfl | h
   ·exact .inr rfl
   ·exact .inl (List.mem_cons_of_mem _ h)
  ·rcases List.mem_cons.1 h with rfl | h
   ·exact .inl (by simp)
   ·rcases J7 h with h | h
    ·exact .inl (List.mem_cons_of_mem _ h)
    ·exact .inr h
theorem Cp {a x:Int}:∀{cs:List av},(hZ cs a x).map (·.place)=if (iY cs a).isSome then cs.map (·.place) else cs.map (·.place)++[a]
 | []=>by simp [hZ,iY]
 | c::cs=>by
  unfold hZ iY
  split
  ·rename_i h;simp [h]
  ·simp only [List.map_cons,Cp (cs:=cs),Option.isSome_map]
   split <;> simp
theorem zW.nil:zW []:=⟨by simp,by simp⟩
theorem zW.put {cs:List av}{a x:Int}(h:zW cs)(ha:uA a=true):zW (hZ cs a x):=by
 refine⟨fun c hc=>?_,?_⟩
 ·rcases J7 hc with h1 | h1
  ·exact h.places c h1
  ·rw [h1];exact ha
 ·rw [Cp]
  cases hi:iY cs a with
  | some k=>simpa using h.nodup
  | none =>
   have h3:=(i6 hi).2.2
   simp only [Option.isSome_none,Bool.false_eq_true,if_false]
   rw [List.nodup_append]
   refine⟨h.nodup,by simp,fun p hp q hq=>?_⟩
   simp only [List.mem_singleton] at hq
   obtain⟨c,hc,rfl⟩:=List.mem_map.1 hp
   subst hq
   exact h3 c hc
theorem Bv {a x b:Int}:∀{cs:List av},dD (hZ cs a x) b=if a=b then some x else dD cs b
 | []=>by simp [hZ,dD]
 | c::cs=>by
  unfold hZ
  by_cases hc:c.place=a
  ·simp only [hc,if_true,dD]
   by_cases hb:a=b <;> simp [hb]
  ·simp only [hc,if_false,dD,Bv (cs:=cs)]
   by_cases hb:a=b
   ·subst hb;simp [hc]
   ·simp [hb]
theorem sU {cs l:List av}{c:av}:iW cs (c::l)=iW (hZ cs c.place c.word) l:=rfl
theorem zW.puts:∀{l cs:List av},zW cs→(∀c∈l,uA c.place=true)→zW (iW cs l)
 | [],cs,h,_=>h
 | c::l,cs,h,hl=>by rw [sU];exact zW.puts (h.put (hl c (by simp))) (fun d hd=>hl d (by simp [hd]))
theorem GG:∀{l cs:List av},((cs++l).map (·.place)).Nodup→iW cs l=cs++l
 | [],cs,_=>by simp [iW]
 | c::l,cs,h=>by
  have hi:iY cs c.place=none:=by
   cases hi:iY cs c.place with
   | none=>rfl
   | some k =>
    obtain⟨h1,h2,_⟩:=ll hi
    rw [List.map_append,List.nodup_append] at h
    exact absurd h2 (h.2.2 _ (List.mem_map.2 ⟨cs[k],List.getElem_mem h1,rfl⟩) _ (by simp))
  rw [sU,(i6 hi).1,GG (by simpa using h)]
  simp
theorem zW.self {cs:List av}(h:zW cs):iW [] cs=cs:=by rw [GG (by simpa using h.nodup)];rfl
theorem zy:∀{l cs:List av},cs.length≤(iW cs l).length∧(iW cs l).length≤cs.length+l.length
 | [],cs=>by simp [iW]
 | c::l,cs=>by
  have h1:=zy (l:=l) (cs:=hZ cs c.place c.word)
  have h2:=MF (cs:=cs) (a:=c.place) (x:=c.word)
  rw [sU];simp only [List.length_cons];omega
theorem NA {cs:List av}{a:Int}{k:Nat}(h:k<cs.length)(hp:iY cs a=(iY (cs.drop k) a).map (·+k)) :
  (cs[k].place=a→iY cs a=some k)∧(cs[k].place≠a→iY cs a=(iY (cs.drop (k+1)) a).map (·+(k+1))):=by
 rw [List.drop_eq_getElem_cons h,Ou] at hp
 refine⟨fun e=>by rw [hp,if_pos e];simp,fun e=>?_⟩
 rw [hp,if_neg e,Option.map_map]
 congr 1
 funext n
 show n+1+k=n+(k+1)
 omega
def mg (most:Int)(cs:List av)(a:Int):Int:=if uA a then (if (iY cs a).isSome then 0 else if most≤cs.length then 5 else 0) else 2
def kt (most:Int):List av→List av→List av×Int
 | cs,[]=>(cs,0)
 | cs,c::l=>if mg most cs c.place=0 then kt most (hZ cs c.place c.word) l else (cs,mg most cs c.place)
theorem KY {most:Int}{cs l:List av}{c:av}:kt most cs (c::l)=if mg most cs c.place=0 then kt most (hZ cs c.place c.word) l else (cs,mg most cs c.place):=rfl
def lB (most:Int)(cs l:List av):List av×Int:=if (kt most cs l).2=0 then ((kt most cs l).1,0) else (cs,(kt most cs l).2)
theorem Ew {most:Int}:∀{l cs:List av},(kt most cs l).2=0→(kt most cs l).1=iW cs l
 | [],cs,_=>rfl
 | c::l,cs,h=>by
  unfold kt at h ⊢
  split at h
  ·rename_i h0;rw [if_pos h0,sU];exact Ew h
  ·rename_i h0;exact absurd h h0
theorem EF {most:Int}:∀{l cs:List av},(∀c∈l,uA c.place=true)→(cs.length+l.length:Int)≤most→(kt most cs l).2=0
 | [],cs,_,_=>rfl
 | c::l,cs,h,hl=>by
  simp only [List.length_cons] at hl
  have h0:mg most cs c.place=0:=by
   unfold mg
   rw [if_pos (h c (by simp))]
   split
   ·rfl
   ·rw [if_neg (by omega)]
  unfold kt
  rw [if_pos h0]
  have:=MF (cs:=cs) (a:=c.place) (x:=c.word)
  exact EF (fun d hd=>h d (by simp [hd])) (by omega)
theorem zn {most:Int}{l cs:List av}(h:∀c∈l,uA c.place=true)(hl:(cs.length+l.length:Int)≤most):lB most cs l=(iW cs l,0):=by
 have h0:=EF h hl
 unfold lB
 rw [if_pos h0,Ew h0]
structure Gm (most:Int)(cs:List av):Prop where
 lo:0≤most
 hi:most≤96
 len:(cs.length:Int)≤most
 ok:zW cs
theorem Gm.put {most:Int}{cs:List av}{a x:Int}(h:Gm most cs)(he:mg most cs a=0):Gm most (hZ cs a x):=by
 unfold mg at he
 split at he
 ·rename_i ha
  refine⟨h.lo,h.hi,?_,h.ok.put ha⟩
  rw [vz]
  have:=h.len
  split at he
  ·rename_i hs;rw [if_pos hs];exact h.len
  ·rename_i hs
   rw [if_neg hs]
   split at he
   ·cases he
   ·omega
 ·cases he
theorem Gm.puts {most:Int}:∀{l cs:List av},Gm most cs→Gm most (kt most cs l).1
 | [],cs,h=>h
 | c::l,cs,h=>by
  unfold kt
  split
  ·rename_i h0;exact Gm.puts (h.put h0)
  ·exact h
theorem Gm.take {most:Int}{cs l:List av}(h:Gm most cs):Gm most (lB most cs l).1:=by
 unfold lB
 split
 ·exact h.puts
 ·exact h
def fY (b:Nat)(s:Int×List av):bd:=od fun v=>bt (gX (bf v [v]∧Gm s.1 s.2)) (bt (own b [i64 s.1,v]) (sl bk v s.2))
section
variable {w0:bo}{L M:List bd}{K:KV}{F:World→Prop}{C:bd→List bd}{b:Nat}{most a x:Int}{cs l:List av}
theorem dR {s:Int×List av}:G w0 (ob fY b s::M) F=∀v,(bf v [v]∧Gm s.1 s.2)→G w0 (own b [i64 s.1,v]::sl bk v s.2::M) F:=by
 rw [em,fY]
 simp only [qm,ez,fI]
theorem G.okW [i:au L fY b (most,cs) C](h:Gm most cs→G w0 L F):G w0 L F:=by
 by_cases hw:Gm most cs
 ·exact h hw
 ·refine i.ro (F':=fun _=>True) (fun M _=>?_) (fun _ _=>trivial)
  rw [dR]
  exact fun v hv=>absurd hv.2 hw
theorem tD {n:Int}(hK:∀b,G w0 (ob fY b (held n 0 96,[])::L) (K (ptr b 0))):G w0 L (CP Tryz.prog VS [i64 n] K):=by
 refine Is ?_
 unfold zB
 refine gr ?_
 have hb:=eI (n:=n) (show (0:Int)≤96 by omega)
 have e3:(if (if (96:Int)<n then (96:Int) else n) > 0 then (if (96:Int)<n then (96:Int) else n) else 0)=held n 0 96:=by
  unfold held;split <;> split <;> split <;> (try split) <;> omega
 rw [e3]
 refine G.nilsl bk ?_
 refine G.box fun b=>?_
 have:=hK b
 rw [dR] at this
 exact this _ ⟨bm,hb.1,hb.2,by simpa using hb.1,.nil⟩
theorem CS {c:av}{q:Nat}{C:bd→List bd}[i:au L oU q [i64 a] C](hK:G w0 L (K (.bool (decide (c.place=a))))):G w0 L (CP Tryz.prog W7 [.agg (av.cells c).toArray,ptr q 0] K):=by
 refine tf ?_
 unfold lY
 refine G.box fun p=>?_
 refine gr ?_
 exact hK.sub
theorem JX {v:Value}{q:Nat}[r:Rd w0 L v bk 2 cs][i:au L oU q [i64 a] C](hl:cs.length≤1000000)(hK:G w0 L (K (i64 (JG cs a)))) :
  G w0 L (CP Tryz.prog Zi [v,.func (.func W7) #[] #[ptr q 0]] K):=by
 refine jX ?_
 unfold fT
 refine gr ?_
 refine G.loop1 (fun k:Nat=>i64 k) (fun _=>L) (fun k=>k≤cs.length∧iY cs a=(iY (cs.drop k) a).map (·+k)) (fun k=>cs.length-k) 0 rfl rfl ⟨by omega,by simp⟩ ?_
 rintro k ⟨hk,hp⟩ J hJ
 refine gr ?_
 refine G.cond (fun h=>?_) (fun h=>?_)
 ·have hk2:k<cs.length:=by simpa using h
  have e:=cw hk2
  obtain⟨p1,p2⟩:=NA hk2 hp
  refine gr ?_
  refine CS (c:=cs[k]) (a:=a) ?_
  refine G.cond (fun h=>?_) (fun h=>?_)
  ·unfold JG at hK
   rw [p1 (by simpa using h)] at hK
   exact hK
  ·refine gr ?_
   rw [dx (by omega)]
   exact hJ (k+1) ⟨hk2,p2 (by simpa using h)⟩ (by omega)
 ·have:cs.drop k=[]:=List.drop_eq_nil_of_le (by simpa using h)
  rw [this] at hp
  unfold JG at hK
  rw [hp] at hK
  exact hK
theorem oC [i:au L fY b (most,cs) C](hK:G w0 L (K (i64 (JG cs a)))):G w0 L (CP Tryz.prog W6 [ptr b 0,i64 a] K):=by
 refine i.ro (fun M hK=>?_) hK
 refine u9 ?_
 unfold oL
 rw [dR] at *
 rintro v ⟨hv,hw⟩
 have h1:(cs.length:Int)≤most:=hw.len
 have h2:most≤96:=hw.hi
 refine G.box fun q=>?_
 refine gr ?_
 refine JX (cs:=cs) (by omega) ?_
 exact(hK v ⟨hv,hw⟩).sub
theorem Gw {k:Nat}(h:iY cs a=some k):JG cs a=k:=by unfold JG;rw [h]
theorem Gu (h:iY cs a=none):JG cs a=-1:=by unfold JG;rw [h]
def En (cs:List av)(a:Int):Value:=match dD cs a with | some x=>.tuple #[u64 x,.bool true] | none=>.tuple #[u64 0,.bool false]
theorem oX [i:au L fY b (most,cs) C](hK:G w0 L (K (En cs a))):G w0 L (CP Tryz.prog Wf [ptr b 0,i64 a] K):=by
 refine xq ?_
 unfold pf
 refine oC (cs:=cs) (most:=most) ?_
 cases hi:iY cs a with
 | none =>
  have:=(i6 hi).2.1
  simp only [En,this] at hK
  rw [Gu hi]
  refine gr ?_
  exact hK
 | some k =>
  obtain⟨hk,_,_,h4⟩:=ll hi
  simp only [En,h4] at hK
  rw [Gw hi]
  have h0:decide (0≤(k:Int))=true:=by simp
  have e:=cw hk
  refine i.ro (fun M hK=>?_) hK
  rw [dR] at *
  intro v hv
  have hK:=hK v hv
  refine eC h0 ?_
  exact hK
theorem j0 [i:au L fY b (most,cs) C](hK:G w0 (C (ob fY b (most,if mg most cs a=0 then hZ cs a x else cs))) (K (i64 (mg most cs a)))):G w0 L (CP Tryz.prog W0 [ptr b 0,i64 a,u64 x] K):=by
 refine i.use (fun M hK=>?_) hK
 refine xi ?_
 unfold pd
 refine gu ?_
 refine gr ?_
 refine G.cond (fun h=>?_) (fun h=>?_)
 ·have h0:mg most cs a=2:=by unfold mg;rw [if_neg];rw [Ba];simp at h;omega
  rw [h0] at hK
  exact hK
 ·have ha:uA a=true:=by rw [Ba];simp at h;omega
  refine oC (cs:=cs) (most:=most) ?_
  cases hi:iY cs a with
  | none =>
   rw [Gu hi]
   have e1:=(i6 hi).1 x
   rw [dR]
   rintro v ⟨hv,hw⟩
   have b1:(cs.length:Int)≤most:=hw.len
   have b2:most≤96:=hw.hi
   by_cases hm:most≤cs.length
   ·have h0:mg most cs a=5:=by unfold mg;rw [if_pos ha,hi];simp [hm]
    rw [h0,if_neg (by decide),dR] at hK
    repeat' (first | (with_reducible refine G.joini0 ?_) | (with_reducible refine G.joini1 ?_) | (with_reducible refine G.drew ?_) | (simp (maxSteps:=2000000) only [↓RG,RP,RB,BEq.rfl,Int.reduceEq,Int.reduceLT,Int.reduceLE,Nat.reduceEqDiff,hm]))
    exact hK v ⟨hv,hw⟩
   ·have h0:mg most cs a=0:=by unfold mg;rw [if_pos ha,hi];simp [hm]
    have hw2:=hw.put (x:=x) h0
    rw [h0,if_pos rfl,dR] at hK
    repeat' (first | (with_reducible refine G.joini0 ?_) | (with_reducible refine G.joini1 ?_) | (with_reducible refine G.drew ?_) | (simp (maxSteps:=2000000) only [↓RG,RP,RB,BEq.rfl,Int.reduceEq,Int.reduceLT,Int.reduceLE,Nat.reduceEqDiff,hm]))
    refine G.append1 (E:=bk) (a:=⟨a,x⟩) rfl rfl (by decide) (by omega) (by simp only [maxLen];omega) fun u hu=>?_
    refine gr ?_
    have hK:=hK u ⟨hu,hw2⟩
    simp only [e1] at hK
    exact hK
  | some k =>
   obtain⟨hk,h2,h3,_⟩:=ll hi
   have h0:mg most cs a=0:=by unfold mg;rw [if_pos ha,hi];simp
   rw [Gw hi]
   have h5:decide (0≤(k:Int))=true:=by simp
   have e:=cw hk
   rw [dR]
   rintro v ⟨hv,hw⟩
   have hw2:=hw.put (x:=x) h0
   rw [h0,if_pos rfl,dR] at hK
   have hK:=hK v ⟨hv,hw2⟩
   simp only [h3] at hK
   refine eC h5 ?_
   rw [h2]
   exact hK
theorem ib [i:au L fY b (most,cs) C](hK:∀u,bf u [u]→G w0 (sl bk u cs::L) (K u)):G w0 L (CP Tryz.prog Nm [ptr b 0] K):=by
 refine i.roN (fun M hK=>?_) hK
 rw [dR]
 rintro v ⟨hv,hw⟩
 have b1:(cs.length:Int)≤most:=hw.len
 have b2:most≤96:=hw.hi
 refine xA ?_
 unfold o5
 refine gr ?_
 refine dT (xs:=cs) (by omega) fun u hu=>?_
 have:=hK u hu
 rw [fC,dR] at this
 exact G.sub (this v ⟨hv,hw⟩)
theorem xu [i:au L fY b (most,cs) C](hK:G w0 L (K (i64 cs.length))):G w0 L (CP Tryz.prog Zl [ptr b 0] K):=by
 refine i.ro (fun M hK=>?_) hK
 rw [dR] at *
 intro v hv
 refine xG ?_
 unfold pn
 refine gr ?_
 exact hK v hv
theorem LL {k:Nat}{z:List av}(hk:k<l.length)(hp:kt most cs l=kt most z (l.drop k)) :
  (mg most z l[k].place=0→kt most cs l=kt most (hZ z l[k].place l[k].word) (l.drop (k+1)))∧(mg most z l[k].place≠0→kt most cs l=(z,mg most z l[k].place)):=by
 rw [List.drop_eq_getElem_cons hk,KY] at hp
 exact⟨fun h=>by rw [hp,if_pos h],fun h=>by rw [hp,if_neg h]⟩
theorem jt {v:Value}[i:au L fY b (most,cs) C][r:∀A,Rd w0 (C A) v bk 2 l](hl:l.length≤1000000)
  (hK:G w0 (C (ob fY b (most,(lB most cs l).1))) (K (i64 (lB most cs l).2))):G w0 L (CP Tryz.prog VH [ptr b 0,v] K):=by
 refine G.okW (b:=b) (most:=most) (cs:=cs) fun hw=>?_
 refine i.useM (fun M hM hK=>?_) hK
 have r':=Rd.frame hM r
 refine wt ?_
 unfold nX
 refine ib (cs:=cs) (most:=most) fun u hu=>?_
 refine gr ?_
 refine G.loop1 (σ:=Nat×List av) (fun s=>i64 s.1) (fun s=>sl bk u cs::ob fY b (most,s.2)::M) (fun s=>s.1≤l.length∧kt most cs l=kt most s.2 (l.drop s.1)) (fun s=>l.length-s.1) (0,cs) rfl rfl ⟨by simp,by simp⟩ ?_
 rintro⟨k,z⟩ ⟨hk,hp⟩ J hJ
 simp only at hk hp hJ ⊢
 refine gr ?_
 refine G.cond (fun h=>?_) (fun h=>?_)
 ·have hk2:k<l.length:=by simpa using h
  have e:=cw hk2
  obtain⟨p1,p2⟩:=LL hk2 hp
  refine gr ?_
  refine G.new fun q=>?_
  refine gr ?_
  refine j0 (cs:=z) (most:=most) ?_
  refine gr ?_
  refine G.cond (fun h=>?_) (fun h=>?_)
  ·have h0:mg most z l[k].place≠0:=by simpa using h
   have p3:=p2 h0
   rw [if_neg h0]
   have h4:lB most cs l=(cs,mg most z l[k].place):=by
    unfold lB;rw [p3];simp [h0]
   rw [h4,dR] at hK
   refine G.take1 fY b ?_
   rw [dR]
   rintro v2 ⟨hv2,_⟩
   refine gr ?_
   exact(hK u ⟨hu,hw⟩).sub
  ·have h0:mg most z l[k].place=0:=by simpa using h
   rw [if_pos h0]
   refine gr ?_
   rw [dx (by omega)]
   exact(hJ (k+1,hZ z l[k].place l[k].word) ⟨hk2,p1 h0⟩ (by simp;omega)).sub
 ·have:l.drop k=[]:=List.drop_eq_nil_of_le (by simpa using h)
  rw [this] at hp
  have h4:lB most cs l=(z,0):=by
   unfold lB;rw [hp];simp [kt]
  rw [h4] at hK
  exact hK.sub
end
end Go.Proofs.YtoealglbimbbmaaGreatDoor.S
