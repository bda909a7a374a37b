import Derived.Test.YtoealglbimbbmaaGreatDoorBook
namespace Go.Proofs.YtoealglbimbbmaaGreatDoor.S
open Go Go.Proofs
set_option linter.unusedVariables false
set_option linter.unusedSimpArgs false
def zB (l:cw):Bool:=if l.held then decide (l.version<4611686018427387904) && (decide (0≤l.owner) && decide (l.owner<4)) else decide (l.version<4611686018427387904) && decide (l.owner=0)
def ah:cw:=⟨0,false,0⟩
def jG (i:Int)(n:Nat):Bool:=decide (0≤i) && decide (i<n)
theorem FC {i:Int}{n:Nat}(h:jG i n=true):∃k:Nat,i=k∧k<n:=by
 simp [jG] at h
 exact⟨i.toNat,by omega,by omega⟩
def fc (a n wide:Int):Int:=if a<0 then -1 else (IntKind.wrap .i64 (a.tdiv (held wide 1 16))).tmod (held n 1 16)
def nU (ls:List cw)(i:Int):cw×Int:=if jG i ls.length then (ls.getD i.toNat ah,0) else (ah,2)
def kR (ls:List cw)(i:Int)(l:cw):Int:=if jG i ls.length then (if zB l then 0 else 1) else 2
def ma (ls:List cw)(i:Int)(was l:cw):List cw×Bool×Int :=
 if kR ls i l=0 then (if ls.getD i.toNat ah=was then (ls.set i.toNat l,true,0) else (ls,false,0)) else (ls,false,kR ls i l)
def ju (ls:List cw)(i:Int)(l:cw):List cw×Int:=if kR ls i l=0 then (ls.set i.toNat l,0) else (ls,kR ls i l)
theorem Dc {ls:List cw}{i:Int}{l:cw}(h:kR ls i l=0):∃k:Nat,i=k∧k<ls.length∧zB l=true:=by
 unfold kR at h
 split at h
 ·rename_i h1
  obtain⟨k,rfl,hk⟩:=FC h1
  split at h
  ·exact⟨k,rfl,hk,by assumption⟩
  ·omega
 ·omega
def nA (b:Nat)(s:List cw×Int):ay:=mW fun v=>bk (ie (ar v [v])) (bk (own b [v,i64 s.2]) (sl lJ v s.1))
def T2 (ls:List cw)(o:Int)(k:Nat):List Int:=((List.range k).filter fun i=>(ls.getD i ah).held && decide ((ls.getD i ah).owner=o)).map fun i:Nat=>(i:Int)
theorem HR {ls:List cw}{k:Nat}(h:k<ls.length):ls.getD k ah=ls[k]:=by simp [h]
section
variable {w0:bh}{L M:List ay}{K:KV}{F:World→Prop}{C:ay→List ay}{b:Nat}{ls:List cw}{wide:Int}
theorem gB:G w0 (ob nA b (ls,wide)::M) F=∀v,ar v [v]→G w0 (own b [v,i64 wide]::sl lJ v ls::M) F:=by
 rw [eZ,nA]
 simp only [qv,fa,fU]
theorem KR {o:Int}(hK:G w0 L (K (.bool (decide (0≤o) && decide (o<4))))):G w0 L (CP Tryz.prog Ys [i64 o] K):=by
 refine JV ?_
 unfold CZ
 refine gu ?_
 refine gr ?_
 exact hK
theorem OZ {v o:Int}{h:Bool}(hK:G w0 L (K (.bool (zB ⟨v,h,o⟩)))):G w0 L (CP Tryz.prog Yd [.agg #[u64 v,.bool h,i64 o]] K):=by
 refine NC ?_
 unfold Hz
 refine gu ?_
 refine G.box fun p=>?_
 refine gr ?_
 cases h
 ·refine gr ?_
  refine G.all (decide (o=0)) (fun _ K hK=>by refine gr ?_;exact hK) ?_
  exact hK.sub
 ·refine gr ?_
  refine G.all (decide (0≤o) && decide (o<4)) (fun _ K hK=>?_) ?_
  ·refine gr ?_
   exact KR hK
  ·exact hK.sub
theorem NB {n:Int}:(if (if (16:Int)<n then (16:Int) else n) > 1 then (if (16:Int)<n then (16:Int) else n) else 1)=held n 1 16:=by
 unfold held;split <;> split <;> (try split) <;> (try split) <;> omega
theorem kG {n:Int}(hK:G w0 L (K (i64 (held n 1 16)))):G w0 L (CP Tryz.prog Ve [i64 n,i64 16] K):=by
 refine G0 ?_
 unfold yQ
 refine gr ?_
 rw [NB]
 exact hK
theorem Nq (n:Int):iG (held n 1 16):=⟨by have:=ft (n:=n) (show (1:Int)≤16 by omega);omega⟩
theorem C1 {a n wd:Int}(hK:G w0 L (K (i64 (fc a n wd)))):G w0 L (CP Tryz.prog Wu [i64 a,i64 n,i64 wd] K):=by
 refine Kg ?_
 unfold Di
 unfold fc at hK
 have n1:=Nq wd
 have n2:=Nq n
 refine gr ?_
 refine G.cond (fun h=>?_) (fun h=>?_)
 ·rw [if_pos (by simpa using h)] at hK
  exact hK
 ·rw [if_neg (by simpa using h)] at hK
  refine G.drew ?_
  refine kG ?_
  refine gr ?_
  refine kG ?_
  refine gr ?_
  exact hK
theorem I2 {n wd:Int}(hK:∀b,G w0 (ob nA b (List.replicate (held n 1 16).toNat ah,held wd 1 16)::L) (K (ptr b 0))):G w0 L (CP Tryz.prog XL [i64 n,i64 wd] K):=by
 refine IC ?_
 unfold AX
 have hb:=ft (n:=n) (show (1:Int)≤16 by omega)
 have eh:i64 (held n 1 16)=i64 ((held n 1 16).toNat:Nat):=by rw [Int.toNat_of_nonneg (by omega)]
 refine G.drew ?_
 refine kG ?_
 refine eY eh ?_
 refine⟨?_,?_⟩
 ·refine G.make lJ ah rfl (by simp only [maxLen];omega) (by omega) fun v hv=>?_
  refine gr ?_
  refine kG ?_
  refine gr ?_
  refine G.box fun b=>?_
  refine gr ?_
  have:=hK b
  rw [gB] at this
  exact this v hv
 ·refine kG ?_
  refine gr ?_
  refine G.make lJ ah rfl (by simp only [maxLen];omega) (by omega) fun v hv=>?_
  refine gr ?_
  refine G.box fun b=>?_
  refine gr ?_
  have:=hK b
  rw [gB] at this
  exact this v hv
theorem rJ {n:Int}[i:aq L nA b (ls,wide) C](hK:G w0 L (K (.bool (jG n ls.length)))):G w0 L (CP Tryz.prog Wl [ptr b 0,i64 n] K):=by
 refine i.ro (fun M hK=>?_) hK
 rw [gB] at *
 intro v hv
 refine Ay ?_
 unfold rF
 refine gu ?_
 refine gr ?_
 refine G.all (decide (n<ls.length)) (fun _ K hK=>by refine gr ?_;exact hK) ?_
 exact hK v hv
theorem yz {n:Int}[i:aq L nA b (ls,wide) C](hK:G w0 L (K (.tuple #[.agg #[u64 (nU ls n).1.version,.bool (nU ls n).1.held,i64 (nU ls n).1.owner],i64 (nU ls n).2]))):G w0 L (CP Tryz.prog XW [ptr b 0,i64 n] K):=by
 refine i.ro (fun M hK=>?_) hK
 refine ym ?_
 unfold pO
 refine G.new fun p=>?_
 refine rJ (ls:=ls) ?_
 unfold nU at hK
 cases hn:jG n ls.length
 ·rw [hn] at hK
  refine gr ?_
  exact hK.sub
 ·rw [hn] at hK
  obtain⟨k,rfl,hk⟩:=FC hn
  simp only [if_true,Int.toNat_natCast,HR hk] at hK
  rw [gB] at hK
  refine gr ?_
  rw [fA,gB]
  intro v hv
  have e:=ct hk
  refine gr ?_
  exact(hK v hv).sub
theorem qB {n v o:Int}{h:Bool}[i:aq L nA b (ls,wide) C](hK:G w0 L (K (i64 (kR ls n ⟨v,h,o⟩)))):G w0 L (CP Tryz.prog Wm [ptr b 0,i64 n,.agg #[u64 v,.bool h,i64 o]] K):=by
 refine i.ro (fun M hK=>?_) hK
 refine zF ?_
 unfold qC
 refine G.box fun p=>?_
 refine rJ (ls:=ls) ?_
 unfold kR at hK
 cases hn:jG n ls.length
 ·rw [hn] at hK
  refine gr ?_
  exact hK.sub
 ·rw [hn] at hK
  refine gr ?_
  refine OZ ?_
  cases hl:zB ⟨v,h,o⟩
  ·rw [hl] at hK
   refine gr ?_
   exact hK.sub
  ·rw [hl] at hK
   refine gr ?_
   exact hK.sub
theorem zG {n v o v2 o2:Int}{h h2:Bool}[i:aq L nA b (ls,wide) C]
  (hK:G w0 (C (ob nA b ((ma ls n ⟨v,h,o⟩ ⟨v2,h2,o2⟩).1,wide))) (K (.tuple #[.bool (ma ls n ⟨v,h,o⟩ ⟨v2,h2,o2⟩).2.1,i64 (ma ls n ⟨v,h,o⟩ ⟨v2,h2,o2⟩).2.2]))) :
  G w0 L (CP Tryz.prog XX [ptr b 0,i64 n,.agg #[u64 v,.bool h,i64 o],.agg #[u64 v2,.bool h2,i64 o2]] K):=by
 refine i.use (fun M hK=>?_) hK
 refine Al ?_
 unfold qU
 refine G.box fun p=>?_
 refine G.box fun p2=>?_
 refine gr ?_
 refine qB (ls:=ls) ?_
 unfold ma at hK
 by_cases hm:kR ls n ⟨v2,h2,o2⟩=0
 ·obtain⟨k,rfl,hk,_⟩:=Dc hm
  simp only [hm,if_true,Int.toNat_natCast,HR hk] at hK
  refine eY hm ?_
  rw [D5,gB]
  intro u hu
  have e:=ct hk
  refine G.drew ?_
  simp only [↓RG,RP,RB,BEq.rfl,Int.reduceEq,Int.reduceLT,Int.reduceLE,Nat.reduceEqDiff,cw.eqb ls[k] ⟨v,h,o⟩]
  by_cases he:ls[k]=⟨v,h,o⟩
  ·simp only [he,if_true] at hK
   rw [gB] at hK
   refine eY he ?_
   refine G.drew ?_
   refine gr ?_
   exact(hK u hu).sub
  ·simp only [he,if_false] at hK
   rw [gB] at hK
   refine eY he ?_
   exact(hK u hu).sub
 ·simp only [hm,if_false] at hK
  refine eY hm ?_
  exact hK.sub
theorem wI {n v o:Int}{h:Bool}[i:aq L nA b (ls,wide) C]
  (hK:G w0 (C (ob nA b ((ju ls n ⟨v,h,o⟩).1,wide))) (K (i64 (ju ls n ⟨v,h,o⟩).2))) :
  G w0 L (CP Tryz.prog XY [ptr b 0,i64 n,.agg #[u64 v,.bool h,i64 o]] K):=by
 refine i.use (fun M hK=>?_) hK
 refine vI ?_
 unfold oS
 refine G.box fun p=>?_
 refine gr ?_
 refine qB (ls:=ls) ?_
 unfold ju at hK
 refine gr ?_
 refine G.joini0 ?_
 by_cases hm:kR ls n ⟨v,h,o⟩=0
 ·obtain⟨k,rfl,hk,_⟩:=Dc hm
  simp only [hm,if_true,Int.toNat_natCast] at hK
  rw [gB] at hK
  refine eY hm ?_
  rw [fA,gB]
  intro u hu
  have e:=ct hk
  refine G.drew ?_
  refine gr ?_
  exact(hK u hu).sub
 ·simp only [hm,if_false] at hK
  refine eY hm ?_
  exact hK.sub
end
end Go.Proofs.YtoealglbimbbmaaGreatDoor.S
