import Derived.Test.YtoealglbimbbmaaGreatDoorBook
namespace Go.Proofs.YtoealglbimbbmaaGreatDoor.S
open Go Go.Proofs
set_option linter.unusedVariables false
set_option linter.unusedSimpArgs false
def je:List au→Int→Option Nat
 | [],_=>none
 | c::cs,a=>if c.place=a then some 0 else (je cs a).map (·+1)
def Ko (cs:List au)(a:Int):Int:=match je cs a with | some k=>k | none=>-1
def i5:List au→Int→Int→List au
 | [],a,x=>[⟨a,x⟩]
 | c::cs,a,x=>if c.place=a then ⟨a,x⟩::cs else c::i5 cs a x
def fl:List au→Int→Option Int
 | [],_=>none
 | c::cs,a=>if c.place=a then some c.word else fl cs a
def ip (cs l:List au):List au:=l.foldl (fun cs c=>i5 cs c.place c.word) cs
def yi (a:Int):Bool:=decide (1≤a) && decide (a<256)
structure Hf (cs:List au):Prop where
 places:∀c∈cs,yi c.place=true
 nodup:(cs.map (·.place)).Nodup
theorem NI {c:au}{cs:List au}{a:Int}:je (c::cs) a=if c.place=a then some 0 else (je cs a).map (·+1):=rfl
theorem Au {a:Int}:yi a=true↔1≤a∧a<256:=by simp [yi]
theorem jb {a:Int}:∀{cs:List au},je cs a=none→(∀x,i5 cs a x=cs++[⟨a,x⟩])∧fl cs a=none∧∀c∈cs,c.place≠a
 | [],_=>⟨fun _=>rfl,rfl,by simp⟩
 | c::cs,h=>by
  unfold je at h
  split at h
  ·cases h
  ·rename_i hc
   obtain⟨h1,h2,h3⟩:=jb (cs:=cs) (by simpa using h)
   refine⟨fun x=>by simp [i5,hc,h1],by simp [fl,hc,h2],fun d hd=>?_⟩
   rcases List.mem_cons.1 hd with rfl | hd
   ·exact hc
   ·exact h3 d hd
theorem ni {a:Int}:∀{cs:List au}{k:Nat},je cs a=some k→∃h:k<cs.length,cs[k].place=a∧(∀x,i5 cs a x=cs.set k ⟨a,x⟩)∧fl cs a=some cs[k].word
 | [],k,h=>by cases h
 | c::cs,k,h=>by
  unfold je at h
  split at h
  ·rename_i hc
   cases h
   exact⟨by simp,hc,fun x=>by simp [i5,hc],by simp [fl,hc]⟩
  ·rename_i hc
   cases hi:je cs a with
   | none=>rw [hi] at h;cases h
   | some j =>
    rw [hi] at h
    cases h
    obtain⟨h1,h2,h3,h4⟩:=ni hi
    exact⟨by simp;omega,by simpa using h2,fun x=>by simp [i5,hc,h3],by simp [fl,hc,h4]⟩
theorem wP {cs:List au}{a:Int}:(je cs a).isSome=(fl cs a).isSome:=by
 cases h:je cs a with
 | none=>rw [(jb h).2.1];rfl
 | some k=>obtain⟨_,_,_,h4⟩:=ni h;rw [h4];rfl
theorem w9 {cs:List au}{a x:Int}:(i5 cs a x).length=if (je cs a).isSome then cs.length else cs.length+1:=by
 cases h:je cs a with
 | none=>simp [(jb h).1]
 | some k=>obtain⟨_,_,h3,_⟩:=ni h;simp [h3]
theorem MJ {cs:List au}{a x:Int}:cs.length≤(i5 cs a x).length∧(i5 cs a x).length≤cs.length+1:=by
 rw [w9];split <;> omega
theorem KS {a x:Int}:∀{cs:List au}{c:au},c∈i5 cs a x→c∈cs∨c.place=a
 | [],c,h=>by simp [i5] at h;subst h;exact .inr rfl
 | d::cs,c,h=>by
  unfold i5 at h
  split at h
  ·rcases List.mem_cons.1 h with rfl | h
   ·exact .inr rfl
   ·exact .inl (List.mem_cons_of_mem _ h)
  ·rcases List.mem_cons.1 h with rfl | h
   ·exact .inl (by simp)
   ·rcases KS h with h | h
    ·exact .inl (List.mem_cons_of_mem _ h)
    ·exact .inr h
theorem CW {a x:Int}:∀{cs:List au},(i5 cs a x).map (·.place)=if (je cs a).isSome then cs.map (·.place) else cs.map (·.place)++[a]
 | []=>by simp [i5,je]
 | c::cs=>by
  unfold i5 je
  split
  ·rename_i h;simp [h]
  ·simp only [List.map_cons,CW (cs:=cs),Option.isSome_map]
   split <;> simp
theorem Hf.nil:Hf []:=⟨by simp,by simp⟩
theorem Hf.put {cs:List au}{a x:Int}(h:Hf cs)(ha:yi a=true):Hf (i5 cs a x):=by
 refine⟨fun c hc=>?_,?_⟩
 ·rcases KS hc with h1 | h1
  ·exact h.places c h1
  ·rw [h1];exact ha
 ·rw [CW]
  cases hi:je cs a with
  | some k=>simpa using h.nodup
  | none =>
   have h3:=(jb hi).2.2
   simp only [Option.isSome_none,Bool.false_eq_true,if_false]
   rw [List.nodup_append]
   refine⟨h.nodup,by simp,fun p hp q hq=>?_⟩
   simp only [List.mem_singleton] at hq
   obtain⟨c,hc,rfl⟩:=List.mem_map.1 hp
   subst hq
   exact h3 c hc
theorem Hq {a x b:Int}:∀{cs:List au},fl (i5 cs a x) b=if a=b then some x else fl cs b
 | []=>by simp [i5,fl]
 | c::cs=>by
  unfold i5
  by_cases hc:c.place=a
  ·simp only [hc,if_true,fl]
   by_cases hb:a=b <;> simp [hb]
  ·simp only [hc,if_false,fl,Hq (cs:=cs)]
   by_cases hb:a=b
   ·subst hb;simp [hc]
   ·simp [hb]
theorem tB {cs l:List au}{c:au}:ip cs (c::l)=ip (i5 cs c.place c.word) l:=rfl
theorem Hf.puts:∀{l cs:List au},Hf cs→(∀c∈l,yi c.place=true)→Hf (ip cs l)
 | [],cs,h,_=>h
 | c::l,cs,h,hl=>by rw [tB];exact Hf.puts (h.put (hl c (by simp))) (fun d hd=>hl d (by simp [hd]))
theorem HH:∀{l cs:List au},((cs++l).map (·.place)).Nodup→ip cs l=cs++l
 | [],cs,_=>by simp [ip]
 | c::l,cs,h=>by
  have hi:je cs c.place=none:=by
   cases hi:je cs c.place with
   | none=>rfl
   | some k =>
    obtain⟨h1,h2,_⟩:=ni hi
    rw [List.map_append,List.nodup_append] at h
    exact absurd h2 (h.2.2 _ (List.mem_map.2 ⟨cs[k],List.getElem_mem h1,rfl⟩) _ (by simp))
  rw [tB,(jb hi).1,HH (by simpa using h)]
  simp
theorem Hf.self {cs:List au}(h:Hf cs):ip [] cs=cs:=by rw [HH (by simpa using h.nodup)];rfl
theorem BD:∀{l cs:List au},cs.length≤(ip cs l).length∧(ip cs l).length≤cs.length+l.length
 | [],cs=>by simp [ip]
 | c::l,cs=>by
  have h1:=BD (l:=l) (cs:=i5 cs c.place c.word)
  have h2:=MJ (cs:=cs) (a:=c.place) (x:=c.word)
  rw [tB];simp only [List.length_cons];omega
theorem OI {cs:List au}{a:Int}{k:Nat}(h:k<cs.length)(hp:je cs a=(je (cs.drop k) a).map (·+k)) :
  (cs[k].place=a→je cs a=some k)∧(cs[k].place≠a→je cs a=(je (cs.drop (k+1)) a).map (·+(k+1))):=by
 rw [List.drop_eq_getElem_cons h,NI] at hp
 refine⟨fun e=>by rw [hp,if_pos e];simp,fun e=>?_⟩
 rw [hp,if_neg e,Option.map_map]
 congr 1
 funext n
 show n+1+k=n+(k+1)
 omega
def mw (most:Int)(cs:List au)(a:Int):Int:=if yi a then (if (je cs a).isSome then 0 else if most≤cs.length then 5 else 0) else 2
def kB (most:Int):List au→List au→List au×Int
 | cs,[]=>(cs,0)
 | cs,c::l=>if mw most cs c.place=0 then kB most (i5 cs c.place c.word) l else (cs,mw most cs c.place)
theorem LU {most:Int}{cs l:List au}{c:au}:kB most cs (c::l)=if mw most cs c.place=0 then kB most (i5 cs c.place c.word) l else (cs,mw most cs c.place):=rfl
def mh (most:Int)(cs l:List au):List au×Int:=if (kB most cs l).2=0 then ((kB most cs l).1,0) else (cs,(kB most cs l).2)
theorem Fv {most:Int}:∀{l cs:List au},(kB most cs l).2=0→(kB most cs l).1=ip cs l
 | [],cs,_=>rfl
 | c::l,cs,h=>by
  unfold kB at h ⊢
  split at h
  ·rename_i h0;rw [if_pos h0,tB];exact Fv h
  ·rename_i h0;exact absurd h h0
theorem Ei {most:Int}:∀{l cs:List au},(∀c∈l,yi c.place=true)→(cs.length+l.length:Int)≤most→(kB most cs l).2=0
 | [],cs,_,_=>rfl
 | c::l,cs,h,hl=>by
  simp only [List.length_cons] at hl
  have h0:mw most cs c.place=0:=by
   unfold mw
   rw [if_pos (h c (by simp))]
   split
   ·rfl
   ·rw [if_neg (by omega)]
  unfold kB
  rw [if_pos h0]
  have:=MJ (cs:=cs) (a:=c.place) (x:=c.word)
  exact Ei (fun d hd=>h d (by simp [hd])) (by omega)
theorem tx {most:Int}{l cs:List au}(h:∀c∈l,yi c.place=true)(hl:(cs.length+l.length:Int)≤most):mh most cs l=(ip cs l,0):=by
 have h0:=Ei h hl
 unfold mh
 rw [if_pos h0,Fv h0]
structure HX (most:Int)(cs:List au):Prop where
 lo:0≤most
 hi:most≤96
 len:(cs.length:Int)≤most
 ok:Hf cs
theorem HX.put {most:Int}{cs:List au}{a x:Int}(h:HX most cs)(he:mw most cs a=0):HX most (i5 cs a x):=by
 unfold mw at he
 split at he
 ·rename_i ha
  refine⟨h.lo,h.hi,?_,h.ok.put ha⟩
  rw [w9]
  have:=h.len
  split at he
  ·rename_i hs;rw [if_pos hs];exact h.len
  ·rename_i hs
   rw [if_neg hs]
   split at he
   ·cases he
   ·omega
 ·cases he
theorem HX.puts {most:Int}:∀{l cs:List au},HX most cs→HX most (kB most cs l).1
 | [],cs,h=>h
 | c::l,cs,h=>by
  unfold kB
  split
  ·rename_i h0;exact HX.puts (h.put h0)
  ·exact h
theorem HX.take {most:Int}{cs l:List au}(h:HX most cs):HX most (mh most cs l).1:=by
 unfold mh
 split
 ·exact h.puts
 ·exact h
def gm (b:Nat)(s:Int×List au):ay:=mW fun v=>bk (ie (ar v [v]∧HX s.1 s.2)) (bk (own b [i64 s.1,v]) (sl bf v s.2))
section
variable {w0:bh}{L M:List ay}{K:KV}{F:World→Prop}{C:ay→List ay}{b:Nat}{most a x:Int}{cs l:List au}
theorem eP {s:Int×List au}:G w0 (ob gm b s::M) F=∀v,(ar v [v]∧HX s.1 s.2)→G w0 (own b [i64 s.1,v]::sl bf v s.2::M) F:=by
 rw [eZ,gm]
 simp only [qv,fa,fU]
theorem G.okW [i:aq L gm b (most,cs) C](h:HX most cs→G w0 L F):G w0 L F:=by
 by_cases hw:HX most cs
 ·exact h hw
 ·refine i.ro (F':=fun _=>True) (fun M _=>?_) (fun _ _=>trivial)
  rw [eP]
  exact fun v hv=>absurd hv.2 hw
theorem tv {n:Int}(hK:∀b,G w0 (ob gm b (held n 0 96,[])::L) (K (ptr b 0))):G w0 L (CP Tryz.prog Vq [i64 n] K):=by
 refine I8 ?_
 unfold Bb
 refine gr ?_
 have hb:=ft (n:=n) (show (0:Int)≤96 by omega)
 have e3:(if (if (96:Int)<n then (96:Int) else n) > 0 then (if (96:Int)<n then (96:Int) else n) else 0)=held n 0 96:=by
  unfold held;split <;> split <;> split <;> (try split) <;> omega
 rw [e3]
 refine G.nilsl bf ?_
 refine G.box fun b=>?_
 have:=hK b
 rw [eP] at this
 exact this _ ⟨be,hb.1,hb.2,by simpa using hb.1,.nil⟩
theorem DM {c:au}{q:Nat}{C:ay→List ay}[i:aq L og q [i64 a] C](hK:G w0 L (K (.bool (decide (c.place=a))))):G w0 L (CP Tryz.prog WL [.agg (au.cells c).toArray,ptr q 0] K):=by
 refine uf ?_
 unfold lZ
 refine G.box fun p=>?_
 refine gr ?_
 exact hK.sub
theorem Ks {v:Value}{q:Nat}[r:Rd w0 L v bf 2 cs][i:aq L og q [i64 a] C](hl:cs.length≤1000000)(hK:G w0 L (K (i64 (Ko cs a)))) :
  G w0 L (CP Tryz.prog YU [v,.func (.func WL) #[] #[ptr q 0]] K):=by
 refine kx ?_
 unfold gi
 refine gr ?_
 refine G.loop1 (fun k:Nat=>i64 k) (fun _=>L) (fun k=>k≤cs.length∧je cs a=(je (cs.drop k) a).map (·+k)) (fun k=>cs.length-k) 0 rfl rfl ⟨by omega,by simp⟩ ?_
 rintro k ⟨hk,hp⟩ J hJ
 refine gr ?_
 refine G.cond (fun h=>?_) (fun h=>?_)
 ·have hk2:k<cs.length:=by simpa using h
  have e:=ct hk2
  obtain⟨p1,p2⟩:=OI hk2 hp
  refine gr ?_
  refine DM (c:=cs[k]) (a:=a) ?_
  refine G.cond (fun h=>?_) (fun h=>?_)
  ·unfold Ko at hK
   rw [p1 (by simpa using h)] at hK
   exact hK
  ·refine gr ?_
   rw [di (by omega)]
   exact hJ (k+1) ⟨hk2,p2 (by simpa using h)⟩ (by omega)
 ·have:cs.drop k=[]:=List.drop_eq_nil_of_le (by simpa using h)
  rw [this] at hp
  unfold Ko at hK
  rw [hp] at hK
  exact hK
theorem pe [i:aq L gm b (most,cs) C](hK:G w0 L (K (i64 (Ko cs a)))):G w0 L (CP Tryz.prog WK [ptr b 0,i64 a] K):=by
 refine i.ro (fun M hK=>?_) hK
 refine xl ?_
 unfold om
 rw [eP] at *
 rintro v ⟨hv,hw⟩
 have h1:(cs.length:Int)≤most:=hw.len
 have h2:most≤96:=hw.hi
 refine G.box fun q=>?_
 refine gr ?_
 refine Ks (cs:=cs) (by omega) ?_
 exact(hK v ⟨hv,hw⟩).sub
theorem G7 {k:Nat}(h:je cs a=some k):Ko cs a=k:=by unfold Ko;rw [h]
theorem HT (h:je cs a=none):Ko cs a=-1:=by unfold Ko;rw [h]
def E9 (cs:List au)(a:Int):Value:=match fl cs a with | some x=>.tuple #[u64 x,.bool true] | none=>.tuple #[u64 0,.bool false]
theorem pE [i:aq L gm b (most,cs) C](hK:G w0 L (K (E9 cs a))):G w0 L (CP Tryz.prog VQ [ptr b 0,i64 a] K):=by
 refine yk ?_
 unfold pH
 refine pe (cs:=cs) (most:=most) ?_
 cases hi:je cs a with
 | none =>
  have:=(jb hi).2.1
  simp only [E9,this] at hK
  rw [HT hi]
  refine gr ?_
  exact hK
 | some k =>
  obtain⟨hk,_,_,h4⟩:=ni hi
  simp only [E9,h4] at hK
  rw [G7 hi]
  have h0:decide (0≤(k:Int))=true:=by simp
  have e:=ct hk
  refine i.ro (fun M hK=>?_) hK
  rw [eP] at *
  intro v hv
  have hK:=hK v hv
  refine eY h0 ?_
  exact hK
theorem ki [i:aq L gm b (most,cs) C](hK:G w0 (C (ob gm b (most,if mw most cs a=0 then i5 cs a x else cs))) (K (i64 (mw most cs a)))):G w0 L (CP Tryz.prog WG [ptr b 0,i64 a,u64 x] K):=by
 refine i.use (fun M hK=>?_) hK
 refine yo ?_
 unfold pP
 refine gu ?_
 refine gr ?_
 refine G.cond (fun h=>?_) (fun h=>?_)
 ·have h0:mw most cs a=2:=by unfold mw;rw [if_neg];rw [Au];simp at h;omega
  rw [h0] at hK
  exact hK
 ·have ha:yi a=true:=by rw [Au];simp at h;omega
  refine pe (cs:=cs) (most:=most) ?_
  cases hi:je cs a with
  | none =>
   rw [HT hi]
   have e1:=(jb hi).1 x
   rw [eP]
   rintro v ⟨hv,hw⟩
   have b1:(cs.length:Int)≤most:=hw.len
   have b2:most≤96:=hw.hi
   by_cases hm:most≤cs.length
   ·have h0:mw most cs a=5:=by unfold mw;rw [if_pos ha,hi];simp [hm]
    rw [h0,if_neg (by decide),eP] at hK
    repeat' (first | (with_reducible refine G.joini0 ?_) | (with_reducible refine G.joini1 ?_) | (with_reducible refine G.drew ?_) | (simp (maxSteps:=2000000) only [↓RG,RP,RB,BEq.rfl,Int.reduceEq,Int.reduceLT,Int.reduceLE,Nat.reduceEqDiff,hm]))
    exact hK v ⟨hv,hw⟩
   ·have h0:mw most cs a=0:=by unfold mw;rw [if_pos ha,hi];simp [hm]
    have hw2:=hw.put (x:=x) h0
    rw [h0,if_pos rfl,eP] at hK
    repeat' (first | (with_reducible refine G.joini0 ?_) | (with_reducible refine G.joini1 ?_) | (with_reducible refine G.drew ?_) | (simp (maxSteps:=2000000) only [↓RG,RP,RB,BEq.rfl,Int.reduceEq,Int.reduceLT,Int.reduceLE,Nat.reduceEqDiff,hm]))
    refine G.append1 (E:=bf) (a:=⟨a,x⟩) rfl rfl (by decide) (by omega) (by simp only [maxLen];omega) fun u hu=>?_
    refine gr ?_
    have hK:=hK u ⟨hu,hw2⟩
    simp only [e1] at hK
    exact hK
  | some k =>
   obtain⟨hk,h2,h3,_⟩:=ni hi
   have h0:mw most cs a=0:=by unfold mw;rw [if_pos ha,hi];simp
   rw [G7 hi]
   have h5:decide (0≤(k:Int))=true:=by simp
   have e:=ct hk
   rw [eP]
   rintro v ⟨hv,hw⟩
   have hw2:=hw.put (x:=x) h0
   rw [h0,if_pos rfl,eP] at hK
   have hK:=hK v ⟨hv,hw2⟩
   simp only [h3] at hK
   refine eY h5 ?_
   rw [h2]
   exact hK
theorem gc [i:aq L gm b (most,cs) C](hK:∀u,ar u [u]→G w0 (sl bf u cs::L) (K u)):G w0 L (CP Tryz.prog LT [ptr b 0] K):=by
 refine i.roN (fun M hK=>?_) hK
 rw [eP]
 rintro v ⟨hv,hw⟩
 have b1:(cs.length:Int)≤most:=hw.len
 have b2:most≤96:=hw.hi
 refine yy ?_
 unfold pK
 refine gr ?_
 refine eQ (xs:=cs) (by omega) fun u hu=>?_
 have:=hK u hu
 rw [fA,eP] at this
 exact G.sub (this v ⟨hv,hw⟩)
theorem yj [i:aq L gm b (most,cs) C](hK:G w0 L (K (i64 cs.length))):G w0 L (CP Tryz.prog YY [ptr b 0] K):=by
 refine i.ro (fun M hK=>?_) hK
 rw [eP] at *
 intro v hv
 refine yD ?_
 unfold pI
 refine gr ?_
 exact hK v hv
theorem Lp {k:Nat}{z:List au}(hk:k<l.length)(hp:kB most cs l=kB most z (l.drop k)) :
  (mw most z l[k].place=0→kB most cs l=kB most (i5 z l[k].place l[k].word) (l.drop (k+1)))∧(mw most z l[k].place≠0→kB most cs l=(z,mw most z l[k].place)):=by
 rw [List.drop_eq_getElem_cons hk,LU] at hp
 exact⟨fun h=>by rw [hp,if_pos h],fun h=>by rw [hp,if_neg h]⟩
theorem gY {v:Value}[i:aq L gm b (most,cs) C][r:∀A,Rd w0 (C A) v bf 2 l](hl:l.length≤1000000)
  (hK:G w0 (C (ob gm b (most,(mh most cs l).1))) (K (i64 (mh most cs l).2))):G w0 L (CP Tryz.prog U9 [ptr b 0,v] K):=by
 refine G.okW (b:=b) (most:=most) (cs:=cs) fun hw=>?_
 refine i.useM (fun M hM hK=>?_) hK
 have r':=Rd.frame hM r
 refine wn ?_
 unfold oY
 refine gc (cs:=cs) (most:=most) fun u hu=>?_
 refine gr ?_
 refine G.loop1 (σ:=Nat×List au) (fun s=>i64 s.1) (fun s=>sl bf u cs::ob gm b (most,s.2)::M) (fun s=>s.1≤l.length∧kB most cs l=kB most s.2 (l.drop s.1)) (fun s=>l.length-s.1) (0,cs) rfl rfl ⟨by simp,by simp⟩ ?_
 rintro⟨k,z⟩ ⟨hk,hp⟩ J hJ
 simp only at hk hp hJ ⊢
 refine gr ?_
 refine G.cond (fun h=>?_) (fun h=>?_)
 ·have hk2:k<l.length:=by simpa using h
  have e:=ct hk2
  obtain⟨p1,p2⟩:=Lp hk2 hp
  refine gr ?_
  refine G.new fun q=>?_
  refine gr ?_
  refine ki (cs:=z) (most:=most) ?_
  refine gr ?_
  refine G.cond (fun h=>?_) (fun h=>?_)
  ·have h0:mw most z l[k].place≠0:=by simpa using h
   have p3:=p2 h0
   rw [if_neg h0]
   have h4:mh most cs l=(cs,mw most z l[k].place):=by
    unfold mh;rw [p3];simp [h0]
   rw [h4,eP] at hK
   refine G.take1 gm b ?_
   rw [eP]
   rintro v2 ⟨hv2,_⟩
   refine gr ?_
   exact(hK u ⟨hu,hw⟩).sub
  ·have h0:mw most z l[k].place=0:=by simpa using h
   rw [if_pos h0]
   refine gr ?_
   rw [di (by omega)]
   exact(hJ (k+1,i5 z l[k].place l[k].word) ⟨hk2,p1 h0⟩ (by simp;omega)).sub
 ·have:l.drop k=[]:=List.drop_eq_nil_of_le (by simpa using h)
  rw [this] at hp
  have h4:mh most cs l=(z,0):=by
   unfold mh;rw [hp];simp [kB]
  rw [h4] at hK
  exact hK.sub
end
end Go.Proofs.YtoealglbimbbmaaGreatDoor.S
