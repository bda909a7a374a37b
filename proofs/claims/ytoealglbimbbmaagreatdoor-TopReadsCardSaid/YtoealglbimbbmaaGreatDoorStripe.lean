import Derived.Test.YtoealglbimbbmaaGreatDoorBook
namespace Go.Proofs.YtoealglbimbbmaaGreatDoor.S
open Go Go.Proofs
set_option linter.unusedVariables false
set_option linter.unusedSimpArgs false
def Ab (l:df):Bool:=if l.held then decide (l.version<4611686018427387904) && (decide (0≤l.owner) && decide (l.owner<4)) else decide (l.version<4611686018427387904) && decide (l.owner=0)
def ai:df:=⟨0,false,0⟩
def jg (i:Int)(n:Nat):Bool:=decide (0≤i) && decide (i<n)
theorem Fs {i:Int}{n:Nat}(h:jg i n=true):∃k:Nat,i=k∧k<n:=by
 simp [jg] at h
 exact⟨i.toNat,by omega,by omega⟩
def es (a n wide:Int):Int:=if a<0 then -1 else (IntKind.wrap .i64 (a.tdiv (held wide 1 16))).tmod (held n 1 16)
def m9 (ls:List df)(i:Int):df×Int:=if jg i ls.length then (ls.getD i.toNat ai,0) else (ai,2)
def kw (ls:List df)(i:Int)(l:df):Int:=if jg i ls.length then (if Ab l then 0 else 1) else 2
def lJ (ls:List df)(i:Int)(was l:df):List df×Bool×Int :=
 if kw ls i l=0 then (if ls.getD i.toNat ai=was then (ls.set i.toNat l,true,0) else (ls,false,0)) else (ls,false,kw ls i l)
def je (ls:List df)(i:Int)(l:df):List df×Int:=if kw ls i l=0 then (ls.set i.toNat l,0) else (ls,kw ls i l)
theorem D0 {ls:List df}{i:Int}{l:df}(h:kw ls i l=0):∃k:Nat,i=k∧k<ls.length∧Ab l=true:=by
 unfold kw at h
 split at h
 ·rename_i h1
  obtain⟨k,rfl,hk⟩:=Fs h1
  split at h
  ·exact⟨k,rfl,hk,by assumption⟩
  ·omega
 ·omega
def mG (b:Nat)(s:List df×Int):ax:=jX fun v=>bu (fS (av v [v])) (bu (own b [v,i64 s.2]) (sl lw v s.1))
def WA (ls:List df)(o:Int)(k:Nat):List Int:=((List.range k).filter fun i=>(ls.getD i ai).held && decide ((ls.getD i ai).owner=o)).map fun i:Nat=>(i:Int)
theorem IU {ls:List df}{k:Nat}(h:k<ls.length):ls.getD k ai=ls[k]:=by simp [h]
section
variable {w0:bg}{L M:List ax}{K:KV}{F:World→Prop}{C:ax→List ax}{b:Nat}{ls:List df}{wide:Int}
theorem fT:G w0 (ob mG b (ls,wide)::M) F=∀v,av v [v]→G w0 (own b [v,i64 wide]::sl lw v ls::M) F:=by
 rw [dO,mG]
 simp only [lT,dP,eS]
theorem L1 {o:Int}(hK:G w0 L (K (.bool (decide (0≤o) && decide (o<4))))):G w0 L (CP Tryz.prog abC [i64 o] K):=by
 refine LV ?_
 unfold D5
 refine gu ?_
 refine gr ?_
 exact hK
theorem Qj {v o:Int}{h:Bool}(hK:G w0 L (K (.bool (Ab ⟨v,h,o⟩)))):G w0 L (CP Tryz.prog abo [.agg #[u64 v,.bool h,i64 o]] K):=by
 refine Qx ?_
 unfold IV
 refine gu ?_
 refine G.box fun p=>?_
 refine gr ?_
 cases h
 ·refine gr ?_
  refine G.all (decide (o=0)) (fun _ K hK=>by refine gr ?_;exact hK) ?_
  exact hK.sub
 ·refine gr ?_
  refine G.all (decide (0≤o) && decide (o<4)) (fun _ K hK=>?_) ?_
  ·refine gr ?_
   exact L1 hK
  ·exact hK.sub
theorem QD {n:Int}:(if (if (16:Int)<n then (16:Int) else n) > 1 then (if (16:Int)<n then (16:Int) else n) else 1)=held n 1 16:=by
 unfold held;split <;> split <;> (try split) <;> (try split) <;> omega
theorem j4 {n:Int}(hK:G w0 L (K (i64 (held n 1 16)))):G w0 L (CP Tryz.prog Xx [i64 n,i64 16] K):=by
 refine HT ?_
 unfold zu
 refine gr ?_
 rw [QD]
 exact hK
theorem O2 (n:Int):gZ (held n 1 16):=⟨by have:=eQ (n:=n) (show (1:Int)≤16 by omega);omega⟩
theorem Es {a n wd:Int}(hK:G w0 L (K (i64 (es a n wd)))):G w0 L (CP Tryz.prog Za [i64 a,i64 n,i64 wd] K):=by
 refine Ml ?_
 unfold Eu
 unfold es at hK
 have n1:=O2 wd
 have n2:=O2 n
 refine gr ?_
 refine G.cond (fun h=>?_) (fun h=>?_)
 ·rw [if_pos (by simpa using h)] at hK
  exact hK
 ·rw [if_neg (by simpa using h)] at hK
  refine G.drew ?_
  refine j4 ?_
  refine gr ?_
  refine j4 ?_
  refine gr ?_
  exact hK
theorem JP {n wd:Int}(hK:∀b,G w0 (ob mG b (List.replicate (held n 1 16).toNat ai,held wd 1 16)::L) (K (ptr b 0))):G w0 L (CP Tryz.prog aaY [i64 n,i64 wd] K):=by
 refine KG ?_
 unfold BT
 have hb:=eQ (n:=n) (show (1:Int)≤16 by omega)
 have eh:i64 (held n 1 16)=i64 ((held n 1 16).toNat:Nat):=by rw [Int.toNat_of_nonneg (by omega)]
 refine G.drew ?_
 refine j4 ?_
 refine dN eh ?_
 refine⟨?_,?_⟩
 ·refine G.make lw ai rfl (by simp only [maxLen];omega) (by omega) fun v hv=>?_
  refine gr ?_
  refine j4 ?_
  refine gr ?_
  refine G.box fun b=>?_
  refine gr ?_
  have:=hK b
  rw [fT] at this
  exact this v hv
 ·refine j4 ?_
  refine gr ?_
  refine G.make lw ai rfl (by simp only [maxLen];omega) (by omega) fun v hv=>?_
  refine gr ?_
  refine G.box fun b=>?_
  refine gr ?_
  have:=hK b
  rw [fT] at this
  exact this v hv
theorem rF {n:Int}[i:al L mG b (ls,wide) C](hK:G w0 L (K (.bool (jg n ls.length)))):G w0 L (CP Tryz.prog Y3 [ptr b 0,i64 n] K):=by
 refine i.ro (fun M hK=>?_) hK
 rw [fT] at *
 intro v hv
 refine A3 ?_
 unfold rb
 refine gu ?_
 refine gr ?_
 refine G.all (decide (n<ls.length)) (fun _ K hK=>by refine gr ?_;exact hK) ?_
 exact hK v hv
theorem yR {n:Int}[i:al L mG b (ls,wide) C](hK:G w0 L (K (.tuple #[.agg #[u64 (m9 ls n).1.version,.bool (m9 ls n).1.held,i64 (m9 ls n).1.owner],i64 (m9 ls n).2]))):G w0 L (CP Tryz.prog aba [ptr b 0,i64 n] K):=by
 refine i.ro (fun M hK=>?_) hK
 refine yX ?_
 unfold oZ
 refine G.new fun p=>?_
 refine rF (ls:=ls) ?_
 unfold m9 at hK
 cases hn:jg n ls.length
 ·rw [hn] at hK
  refine gr ?_
  exact hK.sub
 ·rw [hn] at hK
  obtain⟨k,rfl,hk⟩:=Fs hn
  simp only [if_true,Int.toNat_natCast,IU hk] at hK
  rw [fT] at hK
  refine gr ?_
  rw [eN,fT]
  intro v hv
  have e:=cW hk
  refine gr ?_
  exact(hK v hv).sub
theorem pW {n v o:Int}{h:Bool}[i:al L mG b (ls,wide) C](hK:G w0 L (K (i64 (kw ls n ⟨v,h,o⟩)))):G w0 L (CP Tryz.prog Y4 [ptr b 0,i64 n,.agg #[u64 v,.bool h,i64 o]] K):=by
 refine i.ro (fun M hK=>?_) hK
 refine AN ?_
 unfold qE
 refine G.box fun p=>?_
 refine rF (ls:=ls) ?_
 unfold kw at hK
 cases hn:jg n ls.length
 ·rw [hn] at hK
  refine gr ?_
  exact hK.sub
 ·rw [hn] at hK
  refine gr ?_
  refine Qj ?_
  cases hl:Ab ⟨v,h,o⟩
  ·rw [hl] at hK
   refine gr ?_
   exact hK.sub
  ·rw [hl] at hK
   refine gr ?_
   exact hK.sub
theorem z7 {n v o v2 o2:Int}{h h2:Bool}[i:al L mG b (ls,wide) C]
  (hK:G w0 (C (ob mG b ((lJ ls n ⟨v,h,o⟩ ⟨v2,h2,o2⟩).1,wide))) (K (.tuple #[.bool (lJ ls n ⟨v,h,o⟩ ⟨v2,h2,o2⟩).2.1,i64 (lJ ls n ⟨v,h,o⟩ ⟨v2,h2,o2⟩).2.2]))) :
  G w0 L (CP Tryz.prog abb [ptr b 0,i64 n,.agg #[u64 v,.bool h,i64 o],.agg #[u64 v2,.bool h2,i64 o2]] K):=by
 refine i.use (fun M hK=>?_) hK
 refine Ak ?_
 unfold qu
 refine G.box fun p=>?_
 refine G.box fun p2=>?_
 refine gr ?_
 refine pW (ls:=ls) ?_
 unfold lJ at hK
 by_cases hm:kw ls n ⟨v2,h2,o2⟩=0
 ·obtain⟨k,rfl,hk,_⟩:=D0 hm
  simp only [hm,if_true,Int.toNat_natCast,IU hk] at hK
  refine dN hm ?_
  rw [GC,fT]
  intro u hu
  have e:=cW hk
  refine G.drew ?_
  simp only [↓RG,RP,RB,BEq.rfl,Int.reduceEq,Int.reduceLT,Int.reduceLE,Nat.reduceEqDiff,df.eqb ls[k] ⟨v,h,o⟩]
  by_cases he:ls[k]=⟨v,h,o⟩
  ·simp only [he,if_true] at hK
   rw [fT] at hK
   refine dN he ?_
   refine G.drew ?_
   refine gr ?_
   exact(hK u hu).sub
  ·simp only [he,if_false] at hK
   rw [fT] at hK
   refine dN he ?_
   exact(hK u hu).sub
 ·simp only [hm,if_false] at hK
  refine dN hm ?_
  exact hK.sub
theorem wv {n v o:Int}{h:Bool}[i:al L mG b (ls,wide) C]
  (hK:G w0 (C (ob mG b ((je ls n ⟨v,h,o⟩).1,wide))) (K (i64 (je ls n ⟨v,h,o⟩).2))) :
  G w0 L (CP Tryz.prog abc [ptr b 0,i64 n,.agg #[u64 v,.bool h,i64 o]] K):=by
 refine i.use (fun M hK=>?_) hK
 refine xV ?_
 unfold nr
 refine G.box fun p=>?_
 refine gr ?_
 refine pW (ls:=ls) ?_
 unfold je at hK
 refine gr ?_
 refine G.joini0 ?_
 by_cases hm:kw ls n ⟨v,h,o⟩=0
 ·obtain⟨k,rfl,hk,_⟩:=D0 hm
  simp only [hm,if_true,Int.toNat_natCast] at hK
  rw [fT] at hK
  refine dN hm ?_
  rw [eN,fT]
  intro u hu
  have e:=cW hk
  refine G.drew ?_
  refine gr ?_
  exact(hK u hu).sub
 ·simp only [hm,if_false] at hK
  refine dN hm ?_
  exact hK.sub
end
end Go.Proofs.YtoealglbimbbmaaGreatDoor.S
