import Derived.Test.YtoealglbimbbmaaGreatDoorBook
namespace Go.Proofs.YtoealglbimbbmaaGreatDoor.S
open Go Go.Proofs
set_option linter.unusedVariables false
set_option linter.unusedSimpArgs false
def je:List au→Int→Option Nat
 | [],_=>none
 | c::cs,a=>if c.place=a then some 0 else (je cs a).map (·+1)
def KR (cs:List au)(a:Int):Int:=match je cs a with | some k=>k | none=>-1
def i4:List au→Int→Int→List au
 | [],a,x=>[⟨a,x⟩]
 | c::cs,a,x=>if c.place=a then ⟨a,x⟩::cs else c::i4 cs a x
def fk:List au→Int→Option Int
 | [],_=>none
 | c::cs,a=>if c.place=a then some c.word else fk cs a
def iD (cs l:List au):List au:=l.foldl (fun cs c=>i4 cs c.place c.word) cs
def yo (a:Int):Bool:=decide (1≤a) && decide (a<256)
structure Ho (cs:List au):Prop where
 places:∀c∈cs,yo c.place=true
 nodup:(cs.map (·.place)).Nodup
theorem OL {c:au}{cs:List au}{a:Int}:je (c::cs) a=if c.place=a then some 0 else (je cs a).map (·+1):=rfl
theorem Ax {a:Int}:yo a=true↔1≤a∧a<256:=by simp [yo]
theorem i9 {a:Int}:∀{cs:List au},je cs a=none→(∀x,i4 cs a x=cs++[⟨a,x⟩])∧fk cs a=none∧∀c∈cs,c.place≠a
 | [],_=>⟨fun _=>rfl,rfl,by simp⟩
 | c::cs,h=>by
  unfold je at h
  split at h
  ·cases h
  ·rename_i hc
   obtain⟨h1,h2,h3⟩:=i9 (cs:=cs) (by simpa using h)
   refine⟨fun x=>by simp [i4,hc,h1],by simp [fk,hc,h2],fun d hd=>?_⟩
   rcases List.mem_cons.1 hd with rfl | hd
   ·exact hc
   ·exact h3 d hd
theorem nJ {a:Int}:∀{cs:List au}{k:Nat},je cs a=some k→∃h:k<cs.length,cs[k].place=a∧(∀x,i4 cs a x=cs.set k ⟨a,x⟩)∧fk cs a=some cs[k].word
 | [],k,h=>by cases h
 | c::cs,k,h=>by
  unfold je at h
  split at h
  ·rename_i hc
   cases h
   exact⟨by simp,hc,fun x=>by simp [i4,hc],by simp [fk,hc]⟩
  ·rename_i hc
   cases hi:je cs a with
   | none=>rw [hi] at h;cases h
   | some j =>
    rw [hi] at h
    cases h
    obtain⟨h1,h2,h3,h4⟩:=nJ hi
    exact⟨by simp;omega,by simpa using h2,fun x=>by simp [i4,hc,h3],by simp [fk,hc,h4]⟩
theorem wE {cs:List au}{a:Int}:(je cs a).isSome=(fk cs a).isSome:=by
 cases h:je cs a with
 | none=>rw [(i9 h).2.1];rfl
 | some k=>obtain⟨_,_,_,h4⟩:=nJ h;rw [h4];rfl
theorem xq {cs:List au}{a x:Int}:(i4 cs a x).length=if (je cs a).isSome then cs.length else cs.length+1:=by
 cases h:je cs a with
 | none=>simp [(i9 h).1]
 | some k=>obtain⟨_,_,h3,_⟩:=nJ h;simp [h3]
theorem Ni {cs:List au}{a x:Int}:cs.length≤(i4 cs a x).length∧(i4 cs a x).length≤cs.length+1:=by
 rw [xq];split <;> omega
theorem Ju {a x:Int}:∀{cs:List au}{c:au},c∈i4 cs a x→c∈cs∨c.place=a
 | [],c,h=>by simp [i4] at h;subst h;exact .inr rfl
 | d::cs,c,h=>by
  unfold i4 at h
  split at h
  ·rcases List.mem_cons.1 h with rfl | h
   ·exact .inr rfl
   ·exact .inl (List.mem_cons_of_mem _ h)
  ·rcases List.mem_cons.1 h with rfl | h
   ·exact .inl (by simp)
   ·rcases Ju h with h | h
    ·exact .inl (List.mem_cons_of_mem _ h)
    ·exact .inr h
theorem Dc {a x:Int}:∀{cs:List au},(i4 cs a x).map (·.place)=if (je cs a).isSome then cs.map (·.place) else cs.map (·.place)++[a]
 | []=>by simp [i4,je]
 | c::cs=>by
  unfold i4 je
  split
  ·rename_i h;simp [h]
  ·simp only [List.map_cons,Dc (cs:=cs),Option.isSome_map]
   split <;> simp
theorem Ho.nil:Ho []:=⟨by simp,by simp⟩
theorem Ho.put {cs:List au}{a x:Int}(h:Ho cs)(ha:yo a=true):Ho (i4 cs a x):=by
 refine⟨fun c hc=>?_,?_⟩
 ·rcases Ju hc with h1 | h1
  ·exact h.places c h1
  ·rw [h1];exact ha
 ·rw [Dc]
  cases hi:je cs a with
  | some k=>simpa using h.nodup
  | none =>
   have h3:=(i9 hi).2.2
   simp only [Option.isSome_none,Bool.false_eq_true,if_false]
   rw [List.nodup_append]
   refine⟨h.nodup,by simp,fun p hp q hq=>?_⟩
   simp only [List.mem_singleton] at hq
   obtain⟨c,hc,rfl⟩:=List.mem_map.1 hp
   subst hq
   exact h3 c hc
theorem HI {a x b:Int}:∀{cs:List au},fk (i4 cs a x) b=if a=b then some x else fk cs b
 | []=>by simp [i4,fk]
 | c::cs=>by
  unfold i4
  by_cases hc:c.place=a
  ·simp only [hc,if_true,fk]
   by_cases hb:a=b <;> simp [hb]
  ·simp only [hc,if_false,fk,HI (cs:=cs)]
   by_cases hb:a=b
   ·subst hb;simp [hc]
   ·simp [hb]
theorem tH {cs l:List au}{c:au}:iD cs (c::l)=iD (i4 cs c.place c.word) l:=rfl
theorem Ho.puts:∀{l cs:List au},Ho cs→(∀c∈l,yo c.place=true)→Ho (iD cs l)
 | [],cs,h,_=>h
 | c::l,cs,h,hl=>by rw [tH];exact Ho.puts (h.put (hl c (by simp))) (fun d hd=>hl d (by simp [hd]))
theorem Hv:∀{l cs:List au},((cs++l).map (·.place)).Nodup→iD cs l=cs++l
 | [],cs,_=>by simp [iD]
 | c::l,cs,h=>by
  have hi:je cs c.place=none:=by
   cases hi:je cs c.place with
   | none=>rfl
   | some k =>
    obtain⟨h1,h2,_⟩:=nJ hi
    rw [List.map_append,List.nodup_append] at h
    exact absurd h2 (h.2.2 _ (List.mem_map.2 ⟨cs[k],List.getElem_mem h1,rfl⟩) _ (by simp))
  rw [tH,(i9 hi).1,Hv (by simpa using h)]
  simp
theorem Ho.self {cs:List au}(h:Ho cs):iD [] cs=cs:=by rw [Hv (by simpa using h.nodup)];rfl
theorem Bz:∀{l cs:List au},cs.length≤(iD cs l).length∧(iD cs l).length≤cs.length+l.length
 | [],cs=>by simp [iD]
 | c::l,cs=>by
  have h1:=Bz (l:=l) (cs:=i4 cs c.place c.word)
  have h2:=Ni (cs:=cs) (a:=c.place) (x:=c.word)
  rw [tH];simp only [List.length_cons];omega
theorem ND {cs:List au}{a:Int}{k:Nat}(h:k<cs.length)(hp:je cs a=(je (cs.drop k) a).map (·+k)) :
  (cs[k].place=a→je cs a=some k)∧(cs[k].place≠a→je cs a=(je (cs.drop (k+1)) a).map (·+(k+1))):=by
 rw [List.drop_eq_getElem_cons h,OL] at hp
 refine⟨fun e=>by rw [hp,if_pos e];simp,fun e=>?_⟩
 rw [hp,if_neg e,Option.map_map]
 congr 1
 funext n
 show n+1+k=n+(k+1)
 omega
def mr (most:Int)(cs:List au)(a:Int):Int:=if yo a then (if (je cs a).isSome then 0 else if most≤cs.length then 5 else 0) else 2
def kC (most:Int):List au→List au→List au×Int
 | cs,[]=>(cs,0)
 | cs,c::l=>if mr most cs c.place=0 then kC most (i4 cs c.place c.word) l else (cs,mr most cs c.place)
theorem Mc {most:Int}{cs l:List au}{c:au}:kC most cs (c::l)=if mr most cs c.place=0 then kC most (i4 cs c.place c.word) l else (cs,mr most cs c.place):=rfl
def mc (most:Int)(cs l:List au):List au×Int:=if (kC most cs l).2=0 then ((kC most cs l).1,0) else (cs,(kC most cs l).2)
theorem FI {most:Int}:∀{l cs:List au},(kC most cs l).2=0→(kC most cs l).1=iD cs l
 | [],cs,_=>rfl
 | c::l,cs,h=>by
  unfold kC at h ⊢
  split at h
  ·rename_i h0;rw [if_pos h0,tH];exact FI h
  ·rename_i h0;exact absurd h h0
theorem FY {most:Int}:∀{l cs:List au},(∀c∈l,yo c.place=true)→(cs.length+l.length:Int)≤most→(kC most cs l).2=0
 | [],cs,_,_=>rfl
 | c::l,cs,h,hl=>by
  simp only [List.length_cons] at hl
  have h0:mr most cs c.place=0:=by
   unfold mr
   rw [if_pos (h c (by simp))]
   split
   ·rfl
   ·rw [if_neg (by omega)]
  unfold kC
  rw [if_pos h0]
  have:=Ni (cs:=cs) (a:=c.place) (x:=c.word)
  exact FY (fun d hd=>h d (by simp [hd])) (by omega)
theorem tG {most:Int}{l cs:List au}(h:∀c∈l,yo c.place=true)(hl:(cs.length+l.length:Int)≤most):mc most cs l=(iD cs l,0):=by
 have h0:=FY h hl
 unfold mc
 rw [if_pos h0,FI h0]
structure Hh (most:Int)(cs:List au):Prop where
 lo:0≤most
 hi:most≤96
 len:(cs.length:Int)≤most
 ok:Ho cs
theorem Hh.put {most:Int}{cs:List au}{a x:Int}(h:Hh most cs)(he:mr most cs a=0):Hh most (i4 cs a x):=by
 unfold mr at he
 split at he
 ·rename_i ha
  refine⟨h.lo,h.hi,?_,h.ok.put ha⟩
  rw [xq]
  have:=h.len
  split at he
  ·rename_i hs;rw [if_pos hs];exact h.len
  ·rename_i hs
   rw [if_neg hs]
   split at he
   ·cases he
   ·omega
 ·cases he
theorem Hh.puts {most:Int}:∀{l cs:List au},Hh most cs→Hh most (kC most cs l).1
 | [],cs,h=>h
 | c::l,cs,h=>by
  unfold kC
  split
  ·rename_i h0;exact Hh.puts (h.put h0)
  ·exact h
theorem Hh.take {most:Int}{cs l:List au}(h:Hh most cs):Hh most (mc most cs l).1:=by
 unfold mc
 split
 ·exact h.puts
 ·exact h
def gk (b:Nat)(s:Int×List au):ay:=m3 fun v=>bk (ic (ar v [v]∧Hh s.1 s.2)) (bk (own b [i64 s.1,v]) (sl bf v s.2))
section
variable {w0:bh}{L M:List ay}{K:KV}{F:World→Prop}{C:ay→List ay}{b:Nat}{most a x:Int}{cs l:List au}
theorem eQ {s:Int×List au}:G w0 (ob gk b s::M) F=∀v,(ar v [v]∧Hh s.1 s.2)→G w0 (own b [i64 s.1,v]::sl bf v s.2::M) F:=by
 rw [eZ,gk]
 simp only [qr,fb,fU]
theorem G.okW [i:aq L gk b (most,cs) C](h:Hh most cs→G w0 L F):G w0 L F:=by
 by_cases hw:Hh most cs
 ·exact h hw
 ·refine i.ro (F':=fun _=>True) (fun M _=>?_) (fun _ _=>trivial)
  rw [eQ]
  exact fun v hv=>absurd hv.2 hw
theorem tK {n:Int}(hK:∀b,G w0 (ob gk b (held n 0 96,[])::L) (K (ptr b 0))):G w0 L (CP Tryz.prog Fn.writes_New [i64 n] K):=by
 refine HY ?_
 unfold BA
 refine gr ?_
 have hb:=ft (n:=n) (show (0:Int)≤96 by omega)
 have e3:(if (if (96:Int)<n then (96:Int) else n) > 0 then (if (96:Int)<n then (96:Int) else n) else 0)=held n 0 96:=by
  unfold held;split <;> split <;> split <;> (try split) <;> omega
 rw [e3]
 refine G.nilsl bf ?_
 refine G.box fun b=>?_
 have:=hK b
 rw [eQ] at this
 exact this _ ⟨be,hb.1,hb.2,by simpa using hb.1,.nil⟩
theorem DB {c:au}{q:Nat}{C:ay→List ay}[i:aq L oM q [i64 a] C](hK:G w0 L (K (.bool (decide (c.place=a))))):G w0 L (CP Tryz.prog Fn.writes_Writes_find_1 [.agg (au.cells c).toArray,ptr q 0] K):=by
 refine tB ?_
 unfold lE
 refine G.box fun p=>?_
 refine gr ?_
 exact hK.sub
theorem Ki {v:Value}{q:Nat}[r:Rd w0 L v bf 2 cs][i:aq L oM q [i64 a] C](hl:cs.length≤1000000)(hK:G w0 L (K (i64 (KR cs a)))) :
  G w0 L (CP Tryz.prog Fn.slices_IndexFunc_api_Cell_api_Cell [v,.func (.func Fn.writes_Writes_find_1) #[] #[ptr q 0]] K):=by
 refine j0 ?_
 unfold gb
 refine gr ?_
 refine G.loop1 (fun k:Nat=>i64 k) (fun _=>L) (fun k=>k≤cs.length∧je cs a=(je (cs.drop k) a).map (·+k)) (fun k=>cs.length-k) 0 rfl rfl ⟨by omega,by simp⟩ ?_
 rintro k ⟨hk,hp⟩ J hJ
 refine gr ?_
 refine G.cond (fun h=>?_) (fun h=>?_)
 ·have hk2:k<cs.length:=by simpa using h
  have e:=ct hk2
  obtain⟨p1,p2⟩:=ND hk2 hp
  refine gr ?_
  refine DB (c:=cs[k]) (a:=a) ?_
  refine G.cond (fun h=>?_) (fun h=>?_)
  ·unfold KR at hK
   rw [p1 (by simpa using h)] at hK
   exact hK
  ·refine gr ?_
   rw [di (by omega)]
   exact hJ (k+1) ⟨hk2,p2 (by simpa using h)⟩ (by omega)
 ·have:cs.drop k=[]:=List.drop_eq_nil_of_le (by simpa using h)
  rw [this] at hp
  unfold KR at hK
  rw [hp] at hK
  exact hK
theorem od [i:aq L gk b (most,cs) C](hK:G w0 L (K (i64 (KR cs a)))):G w0 L (CP Tryz.prog Fn.writes_Writes_find [ptr b 0,i64 a] K):=by
 refine i.ro (fun M hK=>?_) hK
 refine wz ?_
 unfold oY
 rw [eQ] at *
 rintro v ⟨hv,hw⟩
 have h1:(cs.length:Int)≤most:=hw.len
 have h2:most≤96:=hw.hi
 refine G.box fun q=>?_
 refine gr ?_
 refine Ki (cs:=cs) (by omega) ?_
 exact(hK v ⟨hv,hw⟩).sub
theorem Ht {k:Nat}(h:je cs a=some k):KR cs a=k:=by unfold KR;rw [h]
theorem G5 (h:je cs a=none):KR cs a=-1:=by unfold KR;rw [h]
def Fj (cs:List au)(a:Int):Value:=match fk cs a with | some x=>.tuple #[u64 x,.bool true] | none=>.tuple #[u64 0,.bool false]
theorem pB [i:aq L gk b (most,cs) C](hK:G w0 L (K (Fj cs a))):G w0 L (CP Tryz.prog Fn.writes_Writes_Get [ptr b 0,i64 a] K):=by
 refine yh ?_
 unfold pF
 refine od (cs:=cs) (most:=most) ?_
 cases hi:je cs a with
 | none =>
  have:=(i9 hi).2.1
  simp only [Fj,this] at hK
  rw [G5 hi]
  refine gr ?_
  exact hK
 | some k =>
  obtain⟨hk,_,_,h4⟩:=nJ hi
  simp only [Fj,h4] at hK
  rw [Ht hi]
  have h0:decide (0≤(k:Int))=true:=by simp
  have e:=ct hk
  refine i.ro (fun M hK=>?_) hK
  rw [eQ] at *
  intro v hv
  have hK:=hK v hv
  refine eY h0 ?_
  exact hK
theorem kl [i:aq L gk b (most,cs) C](hK:G w0 (C (ob gk b (most,if mr most cs a=0 then i4 cs a x else cs))) (K (i64 (mr most cs a)))):G w0 L (CP Tryz.prog Fn.writes_Writes_Put [ptr b 0,i64 a,u64 x] K):=by
 refine i.use (fun M hK=>?_) hK
 refine yl ?_
 unfold pM
 refine gu ?_
 refine gr ?_
 refine G.cond (fun h=>?_) (fun h=>?_)
 ·have h0:mr most cs a=2:=by unfold mr;rw [if_neg];rw [Ax];simp at h;omega
  rw [h0] at hK
  exact hK
 ·have ha:yo a=true:=by rw [Ax];simp at h;omega
  refine od (cs:=cs) (most:=most) ?_
  cases hi:je cs a with
  | none =>
   rw [G5 hi]
   have e1:=(i9 hi).1 x
   rw [eQ]
   rintro v ⟨hv,hw⟩
   have b1:(cs.length:Int)≤most:=hw.len
   have b2:most≤96:=hw.hi
   by_cases hm:most≤cs.length
   ·have h0:mr most cs a=5:=by unfold mr;rw [if_pos ha,hi];simp [hm]
    rw [h0,if_neg (by decide),eQ] at hK
    repeat' (first | (with_reducible refine G.joini0 ?_) | (with_reducible refine G.joini1 ?_) | (with_reducible refine G.drew ?_) | (simp (maxSteps:=2000000) only [↓RG,RP,RB,BEq.rfl,Int.reduceEq,Int.reduceLT,Int.reduceLE,Nat.reduceEqDiff,hm]))
    exact hK v ⟨hv,hw⟩
   ·have h0:mr most cs a=0:=by unfold mr;rw [if_pos ha,hi];simp [hm]
    have hw2:=hw.put (x:=x) h0
    rw [h0,if_pos rfl,eQ] at hK
    repeat' (first | (with_reducible refine G.joini0 ?_) | (with_reducible refine G.joini1 ?_) | (with_reducible refine G.drew ?_) | (simp (maxSteps:=2000000) only [↓RG,RP,RB,BEq.rfl,Int.reduceEq,Int.reduceLT,Int.reduceLE,Nat.reduceEqDiff,hm]))
    refine G.append1 (E:=bf) (a:=⟨a,x⟩) rfl rfl (by decide) (by omega) (by simp only [maxLen];omega) fun u hu=>?_
    refine gr ?_
    have hK:=hK u ⟨hu,hw2⟩
    simp only [e1] at hK
    exact hK
  | some k =>
   obtain⟨hk,h2,h3,_⟩:=nJ hi
   have h0:mr most cs a=0:=by unfold mr;rw [if_pos ha,hi];simp
   rw [Ht hi]
   have h5:decide (0≤(k:Int))=true:=by simp
   have e:=ct hk
   rw [eQ]
   rintro v ⟨hv,hw⟩
   have hw2:=hw.put (x:=x) h0
   rw [h0,if_pos rfl,eQ] at hK
   have hK:=hK v ⟨hv,hw2⟩
   simp only [h3] at hK
   refine eY h5 ?_
   rw [h2]
   exact hK
theorem gc [i:aq L gk b (most,cs) C](hK:∀u,ar u [u]→G w0 (sl bf u cs::L) (K u)):G w0 L (CP Tryz.prog Fn.writes_Writes_All [ptr b 0] K):=by
 refine i.roN (fun M hK=>?_) hK
 rw [eQ]
 rintro v ⟨hv,hw⟩
 have b1:(cs.length:Int)≤most:=hw.len
 have b2:most≤96:=hw.hi
 refine yy ?_
 unfold pz
 refine gr ?_
 refine eP (xs:=cs) (by omega) fun u hu=>?_
 have:=hK u hu
 rw [fA,eQ] at this
 exact G.sub (this v ⟨hv,hw⟩)
theorem yu [i:aq L gk b (most,cs) C](hK:G w0 L (K (i64 cs.length))):G w0 L (CP Tryz.prog Fn.writes_Writes_Len [ptr b 0] K):=by
 refine i.ro (fun M hK=>?_) hK
 rw [eQ] at *
 intro v hv
 refine yg ?_
 unfold po
 refine gr ?_
 exact hK v hv
theorem Ma {k:Nat}{z:List au}(hk:k<l.length)(hp:kC most cs l=kC most z (l.drop k)) :
  (mr most z l[k].place=0→kC most cs l=kC most (i4 z l[k].place l[k].word) (l.drop (k+1)))∧(mr most z l[k].place≠0→kC most cs l=(z,mr most z l[k].place)):=by
 rw [List.drop_eq_getElem_cons hk,Mc] at hp
 exact⟨fun h=>by rw [hp,if_pos h],fun h=>by rw [hp,if_neg h]⟩
theorem gX {v:Value}[i:aq L gk b (most,cs) C][r:∀A,Rd w0 (C A) v bf 2 l](hl:l.length≤1000000)
  (hK:G w0 (C (ob gk b (most,(mc most cs l).1))) (K (i64 (mc most cs l).2))):G w0 L (CP Tryz.prog Fn.writes_Writes_Take [ptr b 0,v] K):=by
 refine G.okW (b:=b) (most:=most) (cs:=cs) fun hw=>?_
 refine i.useM (fun M hM hK=>?_) hK
 have r':=Rd.frame hM r
 refine xi ?_
 unfold oA
 refine gc (cs:=cs) (most:=most) fun u hu=>?_
 refine gr ?_
 refine G.loop1 (σ:=Nat×List au) (fun s=>i64 s.1) (fun s=>sl bf u cs::ob gk b (most,s.2)::M) (fun s=>s.1≤l.length∧kC most cs l=kC most s.2 (l.drop s.1)) (fun s=>l.length-s.1) (0,cs) rfl rfl ⟨by simp,by simp⟩ ?_
 rintro⟨k,z⟩ ⟨hk,hp⟩ J hJ
 simp only at hk hp hJ ⊢
 refine gr ?_
 refine G.cond (fun h=>?_) (fun h=>?_)
 ·have hk2:k<l.length:=by simpa using h
  have e:=ct hk2
  obtain⟨p1,p2⟩:=Ma hk2 hp
  refine gr ?_
  refine G.new fun q=>?_
  refine gr ?_
  refine kl (cs:=z) (most:=most) ?_
  refine gr ?_
  refine G.cond (fun h=>?_) (fun h=>?_)
  ·have h0:mr most z l[k].place≠0:=by simpa using h
   have p3:=p2 h0
   rw [if_neg h0]
   have h4:mc most cs l=(cs,mr most z l[k].place):=by
    unfold mc;rw [p3];simp [h0]
   rw [h4,eQ] at hK
   refine G.take1 gk b ?_
   rw [eQ]
   rintro v2 ⟨hv2,_⟩
   refine gr ?_
   exact(hK u ⟨hu,hw⟩).sub
  ·have h0:mr most z l[k].place=0:=by simpa using h
   rw [if_pos h0]
   refine gr ?_
   rw [di (by omega)]
   exact(hJ (k+1,i4 z l[k].place l[k].word) ⟨hk2,p1 h0⟩ (by simp;omega)).sub
 ·have:l.drop k=[]:=List.drop_eq_nil_of_le (by simpa using h)
  rw [this] at hp
  have h4:mc most cs l=(z,0):=by
   unfold mc;rw [hp];simp [kC]
  rw [h4] at hK
  exact hK.sub
end
end Go.Proofs.YtoealglbimbbmaaGreatDoor.S
