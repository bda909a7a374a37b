import Derived.Test.YtoealglbimbbmaaGreatDoorBook
namespace Go.Proofs.YtoealglbimbbmaaGreatDoor.S
open Go Go.Proofs
set_option linter.unusedVariables false
set_option linter.unusedSimpArgs false
def yz (l:cX):Bool:=if l.held then decide (l.version<4611686018427387904) && (decide (0≤l.owner) && decide (l.owner<4)) else decide (l.version<4611686018427387904) && decide (l.owner=0)
def ae:cX:=⟨0,false,0⟩
def i4 (i:Int)(n:Nat):Bool:=decide (0≤i) && decide (i<n)
theorem Fj {i:Int}{n:Nat}(h:i4 i n=true):∃k:Nat,i=k∧k<n:=by
 simp [i4] at h
 exact⟨i.toNat,by omega,by omega⟩
def eD (a n wide:Int):Int:=if a<0 then -1 else (IntKind.wrap .i64 (a.tdiv (held wide 1 16))).tmod (held n 1 16)
def nB (ls:List cX)(i:Int):cX×Int:=if i4 i ls.length then (ls.getD i.toNat ae,0) else (ae,2)
def kI (ls:List cX)(i:Int)(l:cX):Int:=if i4 i ls.length then (if yz l then 0 else 1) else 2
def lR (ls:List cX)(i:Int)(was l:cX):List cX×Bool×Int :=
 if kI ls i l=0 then (if ls.getD i.toNat ae=was then (ls.set i.toNat l,true,0) else (ls,false,0)) else (ls,false,kI ls i l)
def jD (ls:List cX)(i:Int)(l:cX):List cX×Int:=if kI ls i l=0 then (ls.set i.toNat l,0) else (ls,kI ls i l)
theorem Cb {ls:List cX}{i:Int}{l:cX}(h:kI ls i l=0):∃k:Nat,i=k∧k<ls.length∧yz l=true:=by
 unfold kI at h
 split at h
 ·rename_i h1
  obtain⟨k,rfl,hk⟩:=Fj h1
  split at h
  ·exact⟨k,rfl,hk,by assumption⟩
  ·omega
 ·omega
def ng (b:Nat)(s:List cX×Int):bd:=od fun v=>bt (gX (bf v [v])) (bt (own b [v,i64 s.2]) (sl lw v s.1))
def UL (ls:List cX)(o:Int)(k:Nat):List Int:=((List.range k).filter fun i=>(ls.getD i ae).held && decide ((ls.getD i ae).owner=o)).map fun i:Nat=>(i:Int)
theorem GO {ls:List cX}{k:Nat}(h:k<ls.length):ls.getD k ae=ls[k]:=by simp [h]
section
variable {w0:bo}{L M:List bd}{K:KV}{F:World→Prop}{C:bd→List bd}{b:Nat}{ls:List cX}{wide:Int}
theorem f8:G w0 (ob ng b (ls,wide)::M) F=∀v,bf v [v]→G w0 (own b [v,i64 wide]::sl lw v ls::M) F:=by
 rw [em,ng]
 simp only [qm,ez,fI]
theorem JW {o:Int}(hK:G w0 L (K (.bool (decide (0≤o) && decide (o<4))))):G w0 L (CP Tryz.prog YN [i64 o] K):=by
 refine JS ?_
 unfold CD
 refine gu ?_
 refine gr ?_
 exact hK
theorem Ox {v o:Int}{h:Bool}(hK:G w0 L (K (.bool (yz ⟨v,h,o⟩)))):G w0 L (CP Tryz.prog Yx [.agg #[u64 v,.bool h,i64 o]] K):=by
 refine OB ?_
 unfold GB
 refine gu ?_
 refine G.box fun p=>?_
 refine gr ?_
 cases h
 ·refine gr ?_
  refine G.all (decide (o=0)) (fun _ K hK=>by refine gr ?_;exact hK) ?_
  exact hK.sub
 ·refine gr ?_
  refine G.all (decide (0≤o) && decide (o<4)) (fun _ K hK=>?_) ?_
  ·refine gr ?_
   exact JW hK
  ·exact hK.sub
theorem NH {n:Int}:(if (if (16:Int)<n then (16:Int) else n) > 1 then (if (16:Int)<n then (16:Int) else n) else 1)=held n 1 16:=by
 unfold held;split <;> split <;> (try split) <;> (try split) <;> omega
theorem kA {n:Int}(hK:G w0 L (K (i64 (held n 1 16)))):G w0 L (CP Tryz.prog VG [i64 n,i64 16] K):=by
 refine F1 ?_
 unfold yh
 refine gr ?_
 rw [NH]
 exact hK
theorem MM (n:Int):iT (held n 1 16):=⟨by have:=eI (n:=n) (show (1:Int)≤16 by omega);omega⟩
theorem BW {a n wd:Int}(hK:G w0 L (K (i64 (eD a n wd)))):G w0 L (CP Tryz.prog WN [i64 a,i64 n,i64 wd] K):=by
 refine Jn ?_
 unfold Ch
 unfold eD at hK
 have n1:=MM wd
 have n2:=MM n
 refine gr ?_
 refine G.cond (fun h=>?_) (fun h=>?_)
 ·rw [if_pos (by simpa using h)] at hK
  exact hK
 ·rw [if_neg (by simpa using h)] at hK
  refine G.drew ?_
  refine kA ?_
  refine gr ?_
  refine kA ?_
  refine gr ?_
  exact hK
theorem Iy {n wd:Int}(hK:∀b,G w0 (ob ng b (List.replicate (held n 1 16).toNat ae,held wd 1 16)::L) (K (ptr b 0))):G w0 L (CP Tryz.prog XU [i64 n,i64 wd] K):=by
 refine Hv ?_
 unfold zA
 have hb:=eI (n:=n) (show (1:Int)≤16 by omega)
 have eh:i64 (held n 1 16)=i64 ((held n 1 16).toNat:Nat):=by rw [Int.toNat_of_nonneg (by omega)]
 refine G.drew ?_
 refine kA ?_
 refine eC eh ?_
 refine⟨?_,?_⟩
 ·refine G.make lw ae rfl (by simp only [maxLen];omega) (by omega) fun v hv=>?_
  refine gr ?_
  refine kA ?_
  refine gr ?_
  refine G.box fun b=>?_
  refine gr ?_
  have:=hK b
  rw [f8] at this
  exact this v hv
 ·refine kA ?_
  refine gr ?_
  refine G.make lw ae rfl (by simp only [maxLen];omega) (by omega) fun v hv=>?_
  refine gr ?_
  refine G.box fun b=>?_
  refine gr ?_
  have:=hK b
  rw [f8] at this
  exact this v hv
theorem rm {n:Int}[i:au L ng b (ls,wide) C](hK:G w0 L (K (.bool (i4 n ls.length)))):G w0 L (CP Tryz.prog WE [ptr b 0,i64 n] K):=by
 refine i.ro (fun M hK=>?_) hK
 rw [f8] at *
 intro v hv
 refine AZ ?_
 unfold rq
 refine gu ?_
 refine gr ?_
 refine G.all (decide (n<ls.length)) (fun _ K hK=>by refine gr ?_;exact hK) ?_
 exact hK v hv
theorem xg {n:Int}[i:au L ng b (ls,wide) C](hK:G w0 L (K (.tuple #[.agg #[u64 (nB ls n).1.version,.bool (nB ls n).1.held,i64 (nB ls n).1.owner],i64 (nB ls n).2]))):G w0 L (CP Tryz.prog Yc [ptr b 0,i64 n] K):=by
 refine i.ro (fun M hK=>?_) hK
 refine xy ?_
 unfold oZ
 refine G.new fun p=>?_
 refine rm (ls:=ls) ?_
 unfold nB at hK
 cases hn:i4 n ls.length
 ·rw [hn] at hK
  refine gr ?_
  exact hK.sub
 ·rw [hn] at hK
  obtain⟨k,rfl,hk⟩:=Fj hn
  simp only [if_true,Int.toNat_natCast,GO hk] at hK
  rw [f8] at hK
  refine gr ?_
  rw [fC,f8]
  intro v hv
  have e:=cw hk
  refine gr ?_
  exact(hK v hv).sub
theorem qh {n v o:Int}{h:Bool}[i:au L ng b (ls,wide) C](hK:G w0 L (K (i64 (kI ls n ⟨v,h,o⟩)))):G w0 L (CP Tryz.prog WF [ptr b 0,i64 n,.agg #[u64 v,.bool h,i64 o]] K):=by
 refine i.ro (fun M hK=>?_) hK
 refine yu ?_
 unfold qc
 refine G.box fun p=>?_
 refine rm (ls:=ls) ?_
 unfold kI at hK
 cases hn:i4 n ls.length
 ·rw [hn] at hK
  refine gr ?_
  exact hK.sub
 ·rw [hn] at hK
  refine gr ?_
  refine Ox ?_
  cases hl:yz ⟨v,h,o⟩
  ·rw [hl] at hK
   refine gr ?_
   exact hK.sub
  ·rw [hl] at hK
   refine gr ?_
   exact hK.sub
theorem yv {n v o v2 o2:Int}{h h2:Bool}[i:au L ng b (ls,wide) C]
  (hK:G w0 (C (ob ng b ((lR ls n ⟨v,h,o⟩ ⟨v2,h2,o2⟩).1,wide))) (K (.tuple #[.bool (lR ls n ⟨v,h,o⟩ ⟨v2,h2,o2⟩).2.1,i64 (lR ls n ⟨v,h,o⟩ ⟨v2,h2,o2⟩).2.2]))) :
  G w0 L (CP Tryz.prog Yd [ptr b 0,i64 n,.agg #[u64 v,.bool h,i64 o],.agg #[u64 v2,.bool h2,i64 o2]] K):=by
 refine i.use (fun M hK=>?_) hK
 refine yR ?_
 unfold pL
 refine G.box fun p=>?_
 refine G.box fun p2=>?_
 refine gr ?_
 refine qh (ls:=ls) ?_
 unfold lR at hK
 by_cases hm:kI ls n ⟨v2,h2,o2⟩=0
 ·obtain⟨k,rfl,hk,_⟩:=Cb hm
  simp only [hm,if_true,Int.toNat_natCast,GO hk] at hK
  refine eC hm ?_
  rw [E1,f8]
  intro u hu
  have e:=cw hk
  refine G.drew ?_
  simp only [↓RG,RP,RB,BEq.rfl,Int.reduceEq,Int.reduceLT,Int.reduceLE,Nat.reduceEqDiff,cX.eqb ls[k] ⟨v,h,o⟩]
  by_cases he:ls[k]=⟨v,h,o⟩
  ·simp only [he,if_true] at hK
   rw [f8] at hK
   refine eC he ?_
   refine G.drew ?_
   refine gr ?_
   exact(hK u hu).sub
  ·simp only [he,if_false] at hK
   rw [f8] at hK
   refine eC he ?_
   exact(hK u hu).sub
 ·simp only [hm,if_false] at hK
  refine eC hm ?_
  exact hK.sub
theorem uX {n v o:Int}{h:Bool}[i:au L ng b (ls,wide) C]
  (hK:G w0 (C (ob ng b ((jD ls n ⟨v,h,o⟩).1,wide))) (K (i64 (jD ls n ⟨v,h,o⟩).2))) :
  G w0 L (CP Tryz.prog Ye [ptr b 0,i64 n,.agg #[u64 v,.bool h,i64 o]] K):=by
 refine i.use (fun M hK=>?_) hK
 refine uJ ?_
 unfold om
 refine G.box fun p=>?_
 refine gr ?_
 refine qh (ls:=ls) ?_
 unfold jD at hK
 refine gr ?_
 refine G.joini0 ?_
 by_cases hm:kI ls n ⟨v,h,o⟩=0
 ·obtain⟨k,rfl,hk,_⟩:=Cb hm
  simp only [hm,if_true,Int.toNat_natCast] at hK
  rw [f8] at hK
  refine eC hm ?_
  rw [fC,f8]
  intro u hu
  have e:=cw hk
  refine G.drew ?_
  refine gr ?_
  exact(hK u hu).sub
 ·simp only [hm,if_false] at hK
  refine eC hm ?_
  exact hK.sub
end
end Go.Proofs.YtoealglbimbbmaaGreatDoor.S
