import Derived.Test.YtoealglbimbbmaaGreatDoorTopD
namespace Go.Proofs.YtoealglbimbbmaaGreatDoor.S
open Go Go.Proofs
set_option linter.unusedVariables false
set_option linter.unusedSimpArgs false
def tj (op:Int):(Int×Int)×(Int×Int)×(Int×Int) :=
 if op=1∨op=11∨op=21 then ((0,7),(0,0),(0,0))
 else if op=2∨op=10 then ((0,7),(0,7),(0,0))
 else if op=3∨op=4∨op=5∨op=6∨op=7 then ((0,7),(0,7),(0,7))
 else if op=8∨op=9 then ((0,7),(0,7),(0,15))
 else if op=12 then ((0,0),(0,0),(0,40))
 else if op=13 then ((0,7),(0,0),(0,40))
 else if op=23 then ((1,12),(0,7),(0,6))
 else ((0,0),(0,0),(0,0))
def Jj (f:Int×Int)(n:Int):Bool:=decide (f.1≤n) && decide (n≤f.2)
def F5 (i:bu):Bool:=(decide (1≤i.op∧i.op≤23) && Jj (tj i.op).1 i.a && Jj (tj i.op).2.1 i.b && Jj (tj i.op).2.2 i.c) && (decide (i.n=0) || decide (i.op=1))
def fq (op:Int):Int:=if op=15 then 14 else if op=18 then 17 else if op=19 then 18 else 0
def fz (op:Int):Bool:=decide (op=14) || decide (op=17)
def gl (s:List Int)(i op:Int):List Int:=if fz op || decide (op=18) then i::(if 0<fq op then s.tail else s) else (if 0<fq op then s.tail else s)
def fu:List Int→Int
 | []=>-1
 | i::_=>i
def Jt (p:List bu):List Int→Int
 | []=>0
 | i::_=>(p.getD i.toNat ⟨0,0,0,0,0⟩).op
def ia (p:List bu)(s:List Int)(x:bu):Int :=
 if F5 x=false then 8 else if 0<fq x.op∧Jt p s≠fq x.op then 12 else if x.op=16∧Jt p s≠14 then 12 else if fz x.op=true∧5≤s.length then 9 else 0
def ch (p:List bu):Nat→List Int
 | 0=>[]
 | k+1=>gl (ch p k) k (p.getD k ⟨0,0,0,0,0⟩).op
def cj (p:List bu):List Int:=(List.range p.length).map fun k=>fu (ch p k)
def Ag (op:Int):Bool:=decide (op=12) || decide (op=13)
def nV (p:List bu)(k:Nat)(x:bu):Bool :=
 Ag x.op && (decide ((p.length:Int)<x.c) || (decide (x.c=p.length) && decide ((cj p).getD k 0≠-1)) || (decide (x.c<p.length) && decide ((cj p).getD x.c.toNat 0≠(cj p).getD k 0)))
def fh (p:List bu):Nat→Int
 | 0=>0
 | k+1=>if fh p k≠0 then fh p k else ia p (ch p k) (p.getD k ⟨0,0,0,0,0⟩)
def nK (p:List bu):Nat→Bool
 | 0=>false
 | k+1=>nK p k || nV p k (p.getD k ⟨0,0,0,0,0⟩)
def Ak (p:List bu):Int :=
 if p.length=0∨40<p.length then 4 else if fh p p.length≠0 then fh p p.length else if ch p p.length≠[] then 12 else if nK p p.length then 2 else 0
def mv (p:List bu):Nat→List Int
 | 0=>List.replicate p.length (-1)
 | k+1=>if 0<fq (p.getD k ⟨0,0,0,0,0⟩).op then (mv p k).set ((cj p).getD k 0).toNat k else mv p k
def i8 (p:List bu):Nat→List Int
 | 0=>mv p p.length
 | k+1=>if (p.getD k ⟨0,0,0,0,0⟩).op=16 then (i8 p k).set k ((i8 p k).getD ((cj p).getD k 0).toNat 0) else i8 p k
def ny (p:List bu):List Int:=if Ak p=0 then i8 p p.length else []
section
variable {w0:bh}{L:List ay}{K:KV}{v:Value}{C:ay→List ay}{b:Nat}{op:Int}
theorem GL (hK:G w0 L (K (.tuple #[.agg #[i64 (tj op).1.1,i64 (tj op).1.2],.agg #[i64 (tj op).2.1.1,i64 (tj op).2.1.2],.agg #[i64 (tj op).2.2.1,i64 (tj op).2.2.2]]))):G w0 L (CP Tryz.prog YH [i64 op] K):=by
 refine GV ?_
 unfold yN
 refine G.new fun q1=>?_
 refine G.new fun q2=>?_
 refine G.new fun q3=>?_
 refine gr ?_
 refine G.new fun q4=>?_
 by_cases h:op=1∨op=2∨op=3∨op=4∨op=5∨op=6∨op=7∨op=8∨op=9∨op=10∨op=11∨op=12∨op=13∨op=21∨op=23
 ·rcases h with h | h | h | h | h | h | h | h | h | h | h | h | h | h | h
  all_goals subst h
  all_goals repeat' (first | (with_reducible refine G.joini0 ?_) | (with_reducible refine G.joini1 ?_) | (with_reducible refine G.drew ?_) | (simp (maxSteps:=2000000) only [↓RG,RP,RB,BEq.rfl,Int.reduceEq,Int.reduceLT,Int.reduceLE,Nat.reduceEqDiff]))
  all_goals exact hK.sub
 ·have e:tj op=((0,0),(0,0),(0,0)):=by unfold tj;repeat' rw [if_neg (by omega)]
  rw [e] at hK
  have h1:op≠1:=by omega
  have h2:op≠2:=by omega
  have h3:op≠3:=by omega
  have h4:op≠4:=by omega
  have h5:op≠5:=by omega
  have h6:op≠6:=by omega
  have h7:op≠7:=by omega
  have h8:op≠8:=by omega
  have h9:op≠9:=by omega
  have h10:op≠10:=by omega
  have h11:op≠11:=by omega
  have h12:op≠12:=by omega
  have h13:op≠13:=by omega
  have h21:op≠21:=by omega
  have h23:op≠23:=by omega
  repeat' (first | (with_reducible refine G.joini0 ?_) | (with_reducible refine G.joini1 ?_) | (with_reducible refine G.drew ?_) | (simp (maxSteps:=2000000) only [↓RG,RP,RB,BEq.rfl,Int.reduceEq,Int.reduceLT,Int.reduceLE,Nat.reduceEqDiff,h1,h2,h3,h4,h5,h6,h7,h8,h9,h10,h11,h12,h13,h21,h23]))
  exact hK.sub
theorem mc {f:Int×Int}{n:Int}(hK:G w0 L (K (.bool (Jj f n)))):G w0 L (CP Tryz.prog VP [.agg #[i64 f.1,i64 f.2],i64 n] K):=by
 refine BV ?_
 unfold rA
 refine gu ?_
 refine G.box fun q=>?_
 refine gr ?_
 refine G.all (decide (n≤f.2)) (fun _ K hK=>by refine gr ?_;exact hK) ?_
 exact hK.sub
abbrev Ii:List ByteArray:=[⟨#[]⟩,⟨#[115,101,116]⟩,⟨#[109,111,118,101]⟩,⟨#[97,100,100]⟩,⟨#[115,117,98]⟩,⟨#[109,117,108]⟩,⟨#[108,101,115,115]⟩,⟨#[101,113,117,97,108]⟩,⟨#[108,111,97,100]⟩,⟨#[115,116,111,114,101]⟩,⟨#[97,108,108,111,99]⟩,⟨#[102,114,101,101]⟩,⟨#[106,117,109,112]⟩,⟨#[122,101,114,111]⟩,⟨#[111,112,101,110]⟩,⟨#[99,108,111,115,101]⟩,⟨#[117,110,100,111]⟩,⟨#[101,105,116,104,101,114]⟩,⟨#[111,114]⟩,⟨#[100,111,110,101]⟩,⟨#[114,101,116,114,121]⟩,⟨#[101,109,105,116]⟩,⟨#[102,97,105,108]⟩,⟨#[99,97,108,108]⟩]
theorem IF:∀k,k<24→((Ii.getD k ⟨#[]⟩).toList == (⟨#[]⟩:ByteArray).toList)=decide (k=0):=by decide +kernel
theorem KB (hK:∀s:ByteArray,(s.toList == (⟨#[]⟩:ByteArray).toList)=decide (¬(1≤op∧op≤23))→G w0 L (K (.string s))):G w0 L (CP Tryz.prog YI [i64 op] K):=by
 refine JH ?_
 unfold C3
 refine Jp ?_
 unfold Ax
 refine G.build Iq Ii rfl (by decide) rfl fun v hv=>?_
 refine Iu ?_
 unfold Bc
 have hl:((Ii.length:Nat):Int)=24:=rfl
 refine gu ?_
 by_cases h0:op<0
 ·refine eY h0 ?_
  exact(hK ⟨#[]⟩ (by simp;omega)).sub
 ·by_cases h1:24≤op
  ·refine eY (an h0 (an hl h1)) ?_
   exact(hK ⟨#[]⟩ (by simp;omega)).sub
  ·have hk:op.toNat<Ii.length:=by show op.toNat<24;omega
   have e:=ct hk
   have ix:ij op op.toNat:=⟨by omega⟩
   refine eY (an h0 (an hl h1)) ?_
   have hn:=IF op.toNat (by omega)
   rw [List.getD_eq_getElem?_getD,List.getElem?_eq_getElem hk,Option.getD_some] at hn
   refine(hK _ (hn.trans ?_)).sub
   rw [decide_eq_decide];omega
theorem PP {a b:ByteArray}{t:Bool}{K:KV}(h:(a.toList == b.toList)=t):G w0 L (qw .neq (.string a) (.string b) K)=G w0 L (K (.bool !t)):=by
 congr 1
 funext w
 show F8 .neq (a.toList == b.toList) K w=_
 rw [h]
 rfl
theorem Ld {i:bu}(hK:G w0 L (K (.bool (F5 i)))):G w0 L (CP Tryz.prog YC [.agg #[i64 i.op,i64 i.a,i64 i.b,i64 i.c,u64 i.n]] K):=by
 refine L9 ?_
 unfold D7
 refine G.box fun q=>?_
 refine gr ?_
 refine GL ?_
 refine gr ?_
 refine G.new fun q1=>?_
 refine G.new fun q2=>?_
 refine G.new fun q3=>?_
 refine gr ?_
 refine KB fun s hs=>?_
 rw [PP hs]
 refine gu ?_
 unfold F5 at hK
 by_cases h1:1≤i.op∧i.op≤23
 ·have e1:(!decide (¬(1≤i.op∧i.op≤23)))=true:=by simp [h1]
  rw [e1]
  rw [show decide (1≤i.op∧i.op≤23)=true from decide_eq_true h1] at hK
  refine gr ?_
  refine mc ?_
  cases c1:Jj (tj i.op).1 i.a
  ·rw [c1] at hK
   refine gr ?_
   exact hK.sub
  ·rw [c1] at hK
   refine gr ?_
   refine mc ?_
   cases c2:Jj (tj i.op).2.1 i.b
   ·rw [c2] at hK
    refine gr ?_
    exact hK.sub
   ·rw [c2] at hK
    refine gr ?_
    refine mc ?_
    cases c3:Jj (tj i.op).2.2 i.c
    ·rw [c3] at hK
     refine gr ?_
     exact hK.sub
    ·rw [c3] at hK
     refine gr ?_
     simp only [Bool.true_and] at hK
     refine G.any (decide (i.op=1)) (fun _ K hK=>by refine gr ?_;exact hK) ?_
     exact hK.sub
 ·have e1:(!decide (¬(1≤i.op∧i.op≤23)))=false:=by simp [h1]
  rw [e1]
  rw [show decide (1≤i.op∧i.op≤23)=false from decide_eq_false h1] at hK
  refine gr ?_
  exact hK.sub
theorem IY (hK:G w0 L (K (.bool (Ag op)))):G w0 L (CP Tryz.prog WE [i64 op] K):=by
 refine I1 ?_
 unfold BW
 refine gu ?_
 refine gr ?_
 exact hK
theorem xb (hK:G w0 L (K (.bool (fz op)))):G w0 L (CP Tryz.prog Vf [i64 op] K):=by
 refine Ev ?_
 unfold w7
 refine gu ?_
 refine gr ?_
 exact hK
theorem qb (hK:G w0 L (K (i64 (fq op)))):G w0 L (CP Tryz.prog Vn [i64 op] K):=by
 refine I9 ?_
 unfold A0
 unfold fq at hK
 by_cases h1:op=15
 ·rw [if_pos h1] at hK
  refine eY h1 ?_
  exact hK
 rw [if_neg h1] at hK
 by_cases h2:op=18
 ·rw [if_pos h2] at hK
  refine eY (an h1 h2) ?_
  exact hK
 rw [if_neg h2] at hK
 by_cases h3:op=19
 ·rw [if_pos h3] at hK
  refine eY (an h1 (an h2 h3)) ?_
  exact hK
 rw [if_neg h3] at hK
 refine eY (an h1 (an h2 h3)) ?_
 exact hK
variable {s:List Int}{p:List bu}
theorem QL {i:Int}:eU (i::s).reverse s.length i:=⟨by rw [List.reverse_cons,List.getElem?_append_right (by simp)];simp⟩
theorem qq [r:Rd w0 L v bg 1 s.reverse](hl:s.length≤1000000)(hK:G w0 L (K (i64 (fu s)))):G w0 L (CP Tryz.prog VM [v] K):=by
 refine w4 ?_
 unfold oW
 cases s with
 | nil =>
  try simp (maxSteps:=2000000) only [↓RG,RP,RB,BEq.rfl,Int.reduceEq,Int.reduceLT,Int.reduceLE,Nat.reduceEqDiff,List.reverse_nil,List.length_nil,Int.cast_ofNat_Int]
  exact hK
 | cons i s =>
  have e:=QL (s:=s) (i:=i)
  have h0:¬(((i::s).reverse.length:Nat):Int)=0:=by simp;omega
  have h1:IntKind.wrap .i64 ((((i::s).reverse.length:Nat):Int)-1)=(s.length:Int):=by
   simp only [List.length_reverse,List.length_cons] at hl ⊢
   rw [iy (by omega) (by omega)];omega
  refine eY (an h0 h1) ?_
  exact hK
def TP (p:List bu)(s:List Int):Prop:=∀i∈s,0≤i∧i<p.length
theorem EK {u:Value}[hu:ar u [u]][r:Rd w0 L v bg 1 s.reverse][rp:Rd w0 L u dt 5 p](hl:s.length≤1000000)(hi:TP p s)(hK:G w0 L (K (i64 (Jt p s)))):G w0 L (CP Tryz.prog VO [v,.agg #[u]] K):=by
 refine CA ?_
 unfold sS
 refine G.box fun q=>?_
 cases s with
 | nil =>
  try simp (maxSteps:=2000000) only [↓RG,RP,RB,BEq.rfl,Int.reduceEq,Int.reduceLT,Int.reduceLE,Nat.reduceEqDiff,List.reverse_nil,List.length_nil,Int.cast_ofNat_Int]
  exact hK.sub
 | cons i s =>
  have h0:¬(((i::s).reverse.length:Nat):Int)=0:=by simp;omega
  obtain⟨g1,g2⟩:=hi i (by simp)
  have hk:i.toNat<p.length:=by omega
  have e:=ct hk
  have ix:ij (fu (i::s)) i.toNat:=⟨by show i=_;omega⟩
  have eo:Jt p (i::s)=(p[i.toNat]).op:=by
   show (p.getD i.toNat ⟨0,0,0,0,0⟩).op=_
   rw [List.getD_eq_getElem?_getD,List.getElem?_eq_getElem hk];rfl
  rw [eo] at hK
  repeat' (first | (with_reducible refine G.joini0 ?_) | (with_reducible refine G.joini1 ?_) | (with_reducible refine G.drew ?_) | (simp (maxSteps:=2000000) only [↓RG,RP,RB,BEq.rfl,Int.reduceEq,Int.reduceLT,Int.reduceLE,Nat.reduceEqDiff,h0]))
  refine qq (s:=i::s) hl ?_
  refine gg ?_
  exact hK.sub
theorem MC {w:Value}{M:List ay}{i:Int}(hw:ar w [w])(hl:s.length≤1000)(hK:∀u,ar u [u]→G w0 (sl bg u (if fz op || decide (op=18) then i::s else s).reverse::M) (K u)) :
  G w0 (sl bg w s.reverse::M) (CP Tryz.prog Vf [i64 op] (fun x4=>df x4 false (fun K=>K (Value.bool (decide (op=18)))) (Value.bool true) (fun x7=>cu (fun x8=>K x8) (fun j2=>ae x7 (ak [(Value.int .i64 0)] 1 [(0,1,i64 i)] (fun x9=>av 1 8 w x9 (fun x10=>j2 x10))) (j2 w))))):=by
 refine xb ?_
 refine gr ?_
 refine G.joini1 ?_
 cases hb:(fz op || decide (op=18))
 ·simp only [hb,Bool.false_eq_true,if_false] at hK
  refine gr ?_
  exact hK w hw
 ·simp only [hb,if_true] at hK
  refine gr ?_
  refine G.append1 (E:=bg) (a:=i) rfl rfl (by decide) (by simp;omega) (by simp only [List.length_reverse,maxLen];omega) fun u hu=>?_
  have:=hK u hu
  rw [List.reverse_cons] at this
  exact this
theorem wW {i:Int}(hl:s.length≤1000)(hne:0<fq op→s≠[])(hv:ar v [v])[iv:aq L (P7 bg) v s.reverse C](hK:∀u,ar u [u]→G w0 (C (sl bg u (gl s i op).reverse)) (K u)):G w0 L (CP Tryz.prog Wy [v,i64 i,i64 op] K):=by
 refine iv.useA (ι:={u:Value // ar u [u]}) (A':=fun u=>sl bg u.1 (gl s i op).reverse) (F':=fun u=>K u.1) (fun M hK=>?_) (fun u=>hK u.1 u.2)
 have hK:=fun u hu=>hK ⟨u,hu⟩
 simp only at hK
 refine wv ?_
 unfold oy
 refine qb ?_
 unfold gl at hK
 refine gu ?_
 by_cases h:0<fq op
 ·simp only [h,if_true] at hK
  obtain⟨j,t,rfl⟩:∃j t,s=j::t:=by
   cases s with
   | nil=>exact absurd rfl (hne h)
   | cons j t=>exact⟨j,t,rfl⟩
  have e1:IntKind.wrap .i64 ((((j::t).reverse.length:Nat):Int)-1)=((t.length:Nat):Int):=by
   simp only [List.length_reverse,List.length_cons] at hl ⊢
   rw [iy (by omega) (by omega)];omega
  repeat' (first | (with_reducible refine G.joini0 ?_) | (with_reducible refine G.joini1 ?_) | (with_reducible refine G.drew ?_) | (simp (maxSteps:=2000000) only [↓RG,RP,RB,BEq.rfl,Int.reduceEq,Int.reduceLT,Int.reduceLE,Nat.reduceEqDiff,eq_true h,e1]))
  refine G.take (m:=t.length) (by simp) fun u hu=>?_
  have e2:(j::t).reverse.take t.length=t.reverse:=by
   rw [List.reverse_cons,List.take_append_of_le_length (by simp)]
   exact List.take_of_length_le (by simp)
  rw [e2]
  refine MC hu (by simp at hl;omega) ?_
  exact hK
 ·simp only [h,if_false] at hK
  refine gf h ?_
  refine MC hv hl ?_
  exact hK
theorem GG {x:bu}{u:Value}[hu:ar u [u]][r:Rd w0 L v bg 1 s.reverse][rp:Rd w0 L u dt 5 p](hl:s.length≤1000)(hi:TP p s)(hK:G w0 L (K (i64 (ia p s x)))):G w0 L (CP Tryz.prog Yt [.agg #[u],v,.agg #[i64 x.op,i64 x.a,i64 x.b,i64 x.c,u64 x.n]] K):=by
 refine Gu ?_
 unfold yV
 have hl':s.length≤1000000:=by omega
 refine G.box fun q1=>?_
 refine G.box fun q2=>?_
 refine gr ?_
 refine Ld ?_
 unfold ia at hK
 refine gu ?_
 cases hm:F5 x
 ·rw [if_pos hm] at hK
  refine gg ?_
  exact hK.sub
 rw [if_neg (by rw [hm];decide)] at hK
 repeat' (first | (with_reducible refine G.joini0 ?_) | (with_reducible refine G.joini1 ?_) | (with_reducible refine G.drew ?_) | (simp (maxSteps:=2000000) only [↓RG,RP,RB,BEq.rfl,Int.reduceEq,Int.reduceLT,Int.reduceLE,Nat.reduceEqDiff]))
 refine qb ?_
 have step3:G w0 L (K (i64 (if fz x.op=true∧5≤s.length then 9 else 0)))→G w0 (own q2 [i64 x.op,i64 x.a,i64 x.b,i64 x.c,u64 x.n]::own q1 [u]::L) (CP Tryz.prog Vf [i64 x.op] (fun x28=>df x28 true (fun K=>bp v fun y=>aa .geq y (Value.int .i64 5) K) (Value.bool false) (fun x32=>ae x32 (K (Value.int .i64 9)) (K (Value.int .i64 0))))):=fun hK=>by
  refine xb ?_
  have el:((s.reverse.length:Nat):Int)=s.length:=by simp
  refine G.all (decide (5≤s.length)) (fun _ K hK=>by
   have e5:decide ((5:Int)≤s.length)=decide (5≤s.length):=by rw [decide_eq_decide];omega
   refine eY (an el e5) ?_
   exact hK) ?_
  by_cases c:fz x.op=true∧5≤s.length
  ·rw [if_pos c] at hK
   rw [show (fz x.op && decide (5≤s.length))=true by simp [c.1,c.2]]
   refine gr ?_
   exact hK.sub
  ·rw [if_neg c] at hK
   rw [show (fz x.op && decide (5≤s.length))=false by
    cases hb:fz x.op
    ·rfl
    ·have:¬5≤s.length:=fun g=>c ⟨hb,g⟩
     simp [this]]
   refine gr ?_
   exact hK.sub
 have st2:G w0 L (K (i64 (if x.op=16∧Jt p s≠14 then 12 else if fz x.op=true∧5≤s.length then 9 else 0)))→G w0 (own q2 [i64 x.op,i64 x.a,i64 x.b,i64 x.c,u64 x.n]::own q1 [u]::L)
   (df (.bool (decide (x.op=16))) true (fun K=>aj 1 (ptr q1 0) (fun y=>CP Tryz.prog VO [v,y] (fun y=>aa .neq y (Value.int .i64 14) (fun y=>K y)))) (Value.bool false) (fun x25=>ae x25 (K (Value.int .i64 12))
    (ab (ptr q2 0) (fun x27=>CP Tryz.prog Vf [x27] (fun x28=>df x28 true (fun K=>bp v fun y=>aa .geq y (Value.int .i64 5) (fun y=>K y)) (Value.bool false) (fun x32=>ae x32 (K (Value.int .i64 9)) (K (Value.int .i64 0)))))))):=fun hK=>by
  by_cases c:x.op=16
  ·refine gf (eq_true c) ?_
   refine EK hl' hi ?_
   by_cases c2:Jt p s=14
   ·rw [if_neg (fun g=>g.2 c2)] at hK
    refine gf c2 ?_
    exact step3 hK
   ·rw [if_pos ⟨c,c2⟩] at hK
    refine gf c2 ?_
    exact hK.sub
  ·rw [if_neg (fun g=>c g.1)] at hK
   refine gf c ?_
   exact step3 hK
 by_cases h0:0<fq x.op
 ·refine gf (eq_true h0) ?_
  refine EK hl' hi ?_
  refine gg ?_
  refine qb ?_
  by_cases h1:Jt p s=fq x.op
  ·rw [if_neg (fun g=>g.2 h1)] at hK
   refine gf h1 ?_
   exact st2 hK
  ·rw [if_pos ⟨h0,h1⟩] at hK
   refine gf h1 ?_
   exact hK.sub
 ·rw [if_neg (fun g=>h0 g.1)] at hK
  refine gf h0 ?_
  exact st2 hK
abbrev PW:bu:=⟨0,0,0,0,0⟩
theorem wH {k:Nat}(h:k<p.length):p.getD k PW=p[k]:=by rw [List.getD_eq_getElem?_getD,List.getElem?_eq_getElem h];rfl
theorem tK {k:Nat}:∀{n:Nat},k≤n→fh p n=0→fh p k=0
 | 0,h,e=>by
  obtain rfl:k=0:=by omega
  exact e
 | n+1,h,e=>by
  by_cases c:k=n+1
  ·rw [c];exact e
  ·refine tK (n:=n) (by omega) ?_
   unfold fh at e
   by_cases c2:fh p n=0
   ·exact c2
   ·rw [if_pos c2] at e;exact e
theorem At {k n:Nat}(h:k<n)(e:fh p n=0):ia p (ch p k) (p.getD k PW)=0:=by
 have:=tK (p:=p) (k:=k+1) h e
 unfold fh at this
 rw [if_neg (fun g=>g (tK (Nat.le_of_lt h) e))] at this
 exact this
theorem LR {x:bu}(h:ia p s x=0):F5 x=true:=by
 unfold ia at h
 cases hm:F5 x
 ·rw [if_pos hm] at h;cases h
 ·rfl
theorem H8 {x:bu}(h:ia p s x=0)(h0:0<fq x.op):s≠[]∧Jt p s=fq x.op:=by
 unfold ia at h
 rw [if_neg (by rw [LR (p:=p) (s:=s) (x:=x) (by unfold ia;exact h)];decide)] at h
 have e:Jt p s=fq x.op:=by
  refine Classical.byContradiction fun g=>?_
  rw [if_pos ⟨h0,g⟩] at h;cases h
 refine⟨fun g=>?_,e⟩
 rw [g] at e
 have:Jt p []=0:=rfl
 omega
theorem Fe:∀{k:Nat},k≤p.length→TP p (ch p k)∧(ch p k).length≤k
 | 0,_=>⟨fun i h=>(by cases h),Nat.le_refl _⟩
 | k+1,h=>by
  obtain⟨h1,h2⟩:=Fe (k:=k) (by omega)
  have h3:TP p (ch p k).tail∧(ch p k).tail.length≤k:=⟨fun i hi=>h1 i (List.mem_of_mem_tail hi),by simp;omega⟩
  have h4:TP p (if 0<fq (p.getD k ⟨0,0,0,0,0⟩).op then (ch p k).tail else ch p k)∧(if 0<fq (p.getD k ⟨0,0,0,0,0⟩).op then (ch p k).tail else ch p k).length≤k:=by
   split
   ·exact h3
   ·exact⟨h1,h2⟩
  unfold ch gl
  split
  ·refine⟨fun i hi=>?_,by simp only [List.length_cons];have:=h4.2;omega⟩
   rcases List.mem_cons.1 hi with rfl | hi
   ·omega
   ·exact h4.1 i hi
  ·exact⟨h4.1,by have:=h4.2;omega⟩
theorem tC:(cj p).length=p.length:=by simp [cj]
theorem jH {k:Nat}(h:k<p.length):(cj p)[k]? = some (fu (ch p k)):=by simp [cj,h]
theorem um [r:Rd w0 L v dt 5 p](hv:ar v [v])(hl:p.length≤40)(hw:fh p p.length=0)(hK:∀u,ar u [u]→G w0 (sl bg u (cj p)::L) (K u)):G w0 L (CP Tryz.prog Wz [.agg #[v]] K):=by
 refine DJ ?_
 unfold ur
 refine G.box fun q=>?_
 refine gr ?_
 refine G.make bg 0 rfl (by simp only [maxLen];omega) (by omega) fun u hu=>?_
 refine gr ?_
 refine G.nilsl bg ?_
 refine G.loop2 (σ:=Nat×Value) (fun z=>z.2) (fun z=>i64 z.1) (fun z=>sl bg z.2 (ch p z.1).reverse::sl bg u ((cj p).take z.1++List.replicate (p.length-z.1) 0)::own q [v]::L) (fun z=>z.1≤p.length∧ar z.2 [z.2]) (fun z=>p.length-z.1) (0,.slice none 0 0) rfl rfl (by simp [ch]) ⟨Nat.zero_le _,be⟩ ?_
 rintro⟨k,y⟩ ⟨hk,hy⟩ J hJ
 simp only at hk hy hJ ⊢
 refine gr ?_
 refine G.cond (fun h=>?_) (fun h=>?_)
 ·have hk2:k<p.length:=by simp at h;omega
  have e:=ct hk2
  have hs:=Fe (p:=p) hk
  have hrl:=tC (p:=p)
  have htk:((cj p).take k).length=k:=by rw [List.length_take,hrl];omega
  have e2:eU ((cj p).take k++List.replicate (p.length-k) 0) k 0:=⟨by rw [List.getElem?_append_right (by omega),htk,Nat.sub_self,List.getElem?_replicate,if_pos (by omega)]⟩
  have e3:((cj p).take k++List.replicate (p.length-k) 0).set k (fu (ch p k))=(cj p).take (k+1)++List.replicate (p.length-(k+1)) 0:=by
   rw [List.set_append_right _ _ (by omega),htk,Nat.sub_self,show p.length-k=(p.length-(k+1))+1 by omega,List.replicate_succ,List.set_cons_zero]
   have hr:=jH hk2
   obtain⟨g1,g2⟩:=List.getElem?_eq_some_iff.1 hr
   rw [List.take_succ_eq_append_getElem g1,g2,List.append_assoc]
   rfl
  refine gr ?_
  refine G.new fun q2=>?_
  refine gr ?_
  refine qq (s:=ch p k) (by omega) ?_
  refine gr ?_
  rw [e3]
  have hgd:=wH hk2
  refine wW (s:=ch p k) (op:=p[k].op) (i:=(k:Int)) (by omega) (fun g=>(H8 (At hk2 hw) (by rw [hgd];exact g)).1) hy fun y2 hy2=>?_
  refine gr ?_
  rw [di (by omega)]
  have hn:=hJ (k+1,y2) ⟨hk2,hy2⟩ (by simp only;omega)
  have es:ch p (k+1)=gl (ch p k) k p[k].op:=by rw [←hgd];rfl
  simp only [es] at hn
  exact hn.sub
 ·have hk2:k=p.length:=by simp at h;omega
  have hK:=hK u hu
  rw [hk2,Nat.sub_self,List.replicate_zero,List.append_nil,List.take_of_length_le (by rw [tC];exact Nat.le_refl _)]
  exact hK.sub
theorem Ti {x:bu}(h:F5 x=true)(hj:Ag x.op=true):0≤x.c∧x.c≤40:=by
 unfold F5 Jj at h
 unfold Ag at hj
 simp only [Bool.and_eq_true,decide_eq_true_eq,Bool.or_eq_true] at h hj
 have e:(tj x.op).2.2=(0,40):=by
  unfold tj
  rcases hj with hj | hj <;> rw [hj] <;> rfl
 rw [e] at h
 simp only at h
 omega
theorem Gt {u:Value}[r:Rd w0 L v dt 5 p][r2:Rd w0 L u bg 1 (cj p)](hv:ar v [v])(hl:p.length≤40)(hw:fh p p.length=0)(hK:∀a,G w0 L (K (.tuple #[i64 a,i64 (if nK p p.length=true then 2 else 0)]))):G w0 L (CP Tryz.prog Yu [.agg #[v],u] K):=by
 refine G3 ?_
 unfold nY
 refine G.box fun q=>?_
 refine gu ?_
 refine gr ?_
 have mono:∀{k n:Nat},k≤n→nK p k=true→nK p n=true:=by
  intro k n h e
  induction n with
  | zero =>
   obtain rfl:k=0:=by omega
   exact e
  | succ n ih =>
   by_cases c:k=n+1
   ·rw [←c];exact e
   ·unfold nK;rw [ih (by omega)];rfl
 refine G.loop1 (fun k:Nat=>i64 k) (fun k=>own q [v]::L) (fun k=>k≤p.length∧nK p k=false) (fun k=>p.length-k) 0 rfl rfl ⟨Nat.zero_le _,rfl⟩ ?_
 intro k ⟨hk,hjk⟩ J hJ
 refine gr ?_
 refine G.cond (fun h=>?_) (fun h=>?_)
 ·have hk2:k<p.length:=by simp at h;omega
  have e:=ct hk2
  have hgd:=wH hk2
  have hrk:(cj p)[k]? = some (fu (ch p k)):=jH hk2
  have er:eU (cj p) k ((cj p).getD k 0):=⟨by rw [List.getD_eq_getElem?_getD,hrk];rfl⟩
  have hmay:=LR (At hk2 hw)
  rw [hgd] at hmay
  have hsucc:nK p (k+1)=nV p k p[k]:=by
   show (nK p k || nV p k (p.getD k PW))=_
   rw [hjk,hgd];rfl
  refine G.joini0 ?_
  refine gr ?_
  refine G.new fun q2=>?_
  refine gr ?_
  refine IY ?_
  cases hj:Ag p[k].op
  ·have hn:=hJ (k+1) ⟨hk2,by rw [hsucc];unfold nV;rw [hj];rfl⟩ (by omega)
   refine gg ?_
   rw [di (by omega)]
   exact hn.sub
  ·obtain⟨c0,c40⟩:=Ti hmay hj
   have ix:ij p[k].c p[k].c.toNat:=⟨by omega⟩
   have bad:nV p k p[k]=true→G w0 (own q2 [i64 p[k].op,i64 p[k].a,i64 p[k].b,i64 p[k].c,u64 p[k].n]::own q [v]::L) (K (.tuple #[i64 k,i64 2])):=fun hb=>by
    have h2:=hK k
    rw [if_pos (mono hk2 (by rw [hsucc];exact hb))] at h2
    exact h2.sub
   have good:nV p k p[k]=false→G w0 (own q2 [i64 p[k].op,i64 p[k].a,i64 p[k].b,i64 p[k].c,u64 p[k].n]::own q [v]::L) (J (i64 ((k+1:Nat):Int))):=fun hb =>
    (hJ (k+1) ⟨hk2,by rw [hsucc];exact hb⟩ (by omega)).sub
   unfold nV at bad good
   rw [hj] at bad good
   simp only [Bool.true_and] at bad good
   by_cases a1:(p.length:Int)<p[k].c
   ·repeat' (first | (with_reducible refine G.joini0 ?_) | (with_reducible refine G.joini1 ?_) | (with_reducible refine G.drew ?_) | (simp (maxSteps:=2000000) only [↓RG,RP,RB,BEq.rfl,Int.reduceEq,Int.reduceLT,Int.reduceLE,Nat.reduceEqDiff,eq_true a1]))
    exact bad (by simp [a1])
   by_cases a2:p[k].c=p.length
   ·have a3:¬p[k].c<p.length:=by omega
    by_cases a4:(cj p).getD k 0=-1
    ·repeat' (first | (with_reducible refine G.joini0 ?_) | (with_reducible refine G.joini1 ?_) | (with_reducible refine G.drew ?_) | (simp (maxSteps:=2000000) only [↓RG,RP,RB,BEq.rfl,Int.reduceEq,Int.reduceLT,Int.reduceLE,Nat.reduceEqDiff,a1,eq_true a2,a3,eq_true a4]))
     rw [di (by omega)]
     exact good (by simp only [a1,a3,a4,decide_true,decide_false,ne_eq,not_true_eq_false,not_false_eq_true,Bool.and_true,Bool.true_and,Bool.and_false,Bool.false_and,Bool.or_false,Bool.false_or,Bool.or_true,Bool.true_or,Bool.or_self,Bool.and_self])
    ·repeat' (first | (with_reducible refine G.joini0 ?_) | (with_reducible refine G.joini1 ?_) | (with_reducible refine G.drew ?_) | (simp (maxSteps:=2000000) only [↓RG,RP,RB,BEq.rfl,Int.reduceEq,Int.reduceLT,Int.reduceLE,Nat.reduceEqDiff,a1,eq_true a2,a3,a4]))
     exact bad (by simp only [a2,a4,decide_true,decide_false,ne_eq,not_true_eq_false,not_false_eq_true,Bool.and_true,Bool.true_and,Bool.and_false,Bool.false_and,Bool.or_false,Bool.false_or,Bool.or_true,Bool.true_or,Bool.or_self,Bool.and_self])
   ·have a3:p[k].c<p.length:=by omega
    have hrc:(cj p)[p[k].c.toNat]? = some (fu (ch p p[k].c.toNat)):=jH (by omega)
    have ec:eU (cj p) p[k].c.toNat ((cj p).getD p[k].c.toNat 0):=⟨by rw [List.getD_eq_getElem?_getD,hrc];rfl⟩
    by_cases a4:(cj p).getD p[k].c.toNat 0=(cj p).getD k 0
    ·repeat' (first | (with_reducible refine G.joini0 ?_) | (with_reducible refine G.joini1 ?_) | (with_reducible refine G.drew ?_) | (simp (maxSteps:=2000000) only [↓RG,RP,RB,BEq.rfl,Int.reduceEq,Int.reduceLT,Int.reduceLE,Nat.reduceEqDiff,a1,a2,eq_true a3,eq_true a4]))
     rw [di (by omega)]
     exact good (by simp only [a1,a2,a4,decide_true,decide_false,ne_eq,not_true_eq_false,not_false_eq_true,Bool.and_true,Bool.true_and,Bool.and_false,Bool.false_and,Bool.or_false,Bool.false_or,Bool.or_true,Bool.true_or,Bool.or_self,Bool.and_self])
    ·repeat' (first | (with_reducible refine G.joini0 ?_) | (with_reducible refine G.joini1 ?_) | (with_reducible refine G.drew ?_) | (simp (maxSteps:=2000000) only [↓RG,RP,RB,BEq.rfl,Int.reduceEq,Int.reduceLT,Int.reduceLE,Nat.reduceEqDiff,a1,a2,eq_true a3,a4]))
     exact bad (by simp only [a3,a4,decide_true,decide_false,ne_eq,not_true_eq_false,not_false_eq_true,Bool.and_true,Bool.true_and,Bool.and_false,Bool.false_and,Bool.or_false,Bool.false_or,Bool.or_true,Bool.true_or,Bool.or_self,Bool.and_self])
 ·have hk2:k=p.length:=by simp at h;omega
  have h2:=hK 0
  rw [←hk2,if_neg (by rw [hjk];decide)] at h2
  exact h2.sub
theorem CT [r:Rd w0 L v dt 5 p](hv:ar v [v])(hl:p.length≤1000000)(hK:∀a,G w0 L (K (.tuple #[i64 a,i64 (Ak p)]))):G w0 L (CP Tryz.prog Wt [.agg #[v]] K):=by
 refine K2 ?_
 unfold Dk
 refine G.box fun q=>?_
 refine gu ?_
 unfold Ak at hK
 by_cases h0:p.length=0
 ·have c:((p.length:Int)=0)=True:=eq_true (by omega)
  rw [if_pos (.inl h0)] at hK
  refine eY c ?_
  exact(hK 0).sub
 by_cases h40:40<p.length
 ·have c:((p.length:Int)=0)=False:=eq_false (by omega)
  have c2:((40:Int)<p.length)=True:=eq_true (by omega)
  rw [if_pos (.inr h40)] at hK
  refine eY (an c c2) ?_
  exact(hK 0).sub
 have c:((p.length:Int)=0)=False:=eq_false (by omega)
 have c2:((40:Int)<p.length)=False:=eq_false (by omega)
 rw [if_neg (by omega)] at hK
 refine eY (an c c2) ?_
 refine G.nilsl bg ?_
 refine G.loop2 (σ:=Nat×Value) (fun z=>z.2) (fun z=>i64 z.1) (fun z=>sl bg z.2 (ch p z.1).reverse::own q [v]::L) (fun z=>z.1≤p.length∧fh p z.1=0∧ar z.2 [z.2]) (fun z=>p.length-z.1) (0,.slice none 0 0) rfl rfl rfl ⟨Nat.zero_le _,rfl,be⟩ ?_
 rintro⟨k,y⟩ ⟨hk,hwk,hy⟩ J hJ
 simp only at hk hwk hy hJ ⊢
 have hs:=Fe (p:=p) hk
 refine gr ?_
 refine G.cond (fun h=>?_) (fun h=>?_)
 ·have hk2:k<p.length:=by simp at h;omega
  have e:=ct hk2
  have hgd:=wH hk2
  have hsucc:fh p (k+1)=ia p (ch p k) p[k]:=by
   show (if fh p k≠0 then fh p k else ia p (ch p k) (p.getD k PW))=_
   rw [if_neg (fun g=>g hwk),hgd]
  refine gr ?_
  refine G.new fun q2=>?_
  refine gr ?_
  refine GG (s:=ch p k) (p:=p) (x:=p[k]) (by omega) hs.1 ?_
  by_cases c:ia p (ch p k) p[k]=0
  ·rw [c]
   refine gg ?_
   refine wW (s:=ch p k) (op:=p[k].op) (i:=(k:Int)) (by omega) (fun g=>(H8 c g).1) hy fun y2 hy2=>?_
   refine gr ?_
   rw [di (by omega)]
   have hn:=hJ (k+1,y2) ⟨hk2,by rw [hsucc];exact c,hy2⟩ (by simp only;omega)
   have es:ch p (k+1)=gl (ch p k) k p[k].op:=by rw [←hgd];rfl
   simp only [es] at hn
   exact hn.sub
  ·refine gf c ?_
   have e1:fh p p.length=ia p (ch p k) p[k]:=by
    have:∀n,k+1≤n→fh p n=fh p (k+1):=by
     intro n hn
     induction n with
     | zero=>omega
     | succ n ih =>
      by_cases c3:k+1=n+1
      ·rw [c3]
      ·have:=ih (by omega)
       show (if fh p n≠0 then fh p n else ia p (ch p n) (p.getD n PW))=_
       rw [if_pos (by rw [this,hsucc];exact c),this]
    rw [this p.length hk2,hsucc]
   have h2:=hK k
   rw [e1,if_pos c] at h2
   exact h2.sub
 ·have hk2:k=p.length:=by simp at h;omega
  rw [←hk2,if_neg (fun g=>g hwk)] at hK
  by_cases c3:ch p k=[]
  ·rw [if_neg (fun g=>g c3)] at hK
   rw [c3]
   repeat' (first | (with_reducible refine G.joini0 ?_) | (with_reducible refine G.joini1 ?_) | (with_reducible refine G.drew ?_) | (simp (maxSteps:=2000000) only [↓RG,RP,RB,BEq.rfl,Int.reduceEq,Int.reduceLT,Int.reduceLE,Nat.reduceEqDiff,List.reverse_nil,List.length_nil,Int.cast_ofNat_Int]))
   refine um hv (by omega) (by rw [←hk2];exact hwk) fun u hu=>?_
   refine gg ?_
   refine Gt hv (by omega) (by rw [←hk2];exact hwk) fun a=>?_
   refine gg ?_
   have h2:=hK a
   rw [hk2] at h2
   exact h2.sub
  ·rw [if_pos c3] at hK
   have c4:((0:Int)<((ch p k).reverse.length:Nat))=True:=eq_true (by
    rw [List.length_reverse]
    cases hh:ch p k with
    | nil=>exact absurd hh c3
    | cons a b=>simp only [List.length_cons];omega)
   refine gf c4 ?_
   refine qq (s:=ch p k) (by omega) ?_
   repeat' (first | (with_reducible refine G.joini0 ?_) | (with_reducible refine G.joini1 ?_) | (with_reducible refine G.drew ?_) | (simp (maxSteps:=2000000) only [↓RG,RP,RB,BEq.rfl,Int.reduceEq,Int.reduceLT,Int.reduceLE,Nat.reduceEqDiff]))
   exact(hK _).sub
theorem EO:∀k,(mv p k).length=p.length
 | 0=>by simp [mv]
 | k+1=>by unfold mv;split <;> simp [EO k]
theorem B8:∀k,(i8 p k).length=p.length
 | 0=>by unfold i8;exact EO _
 | k+1=>by unfold i8;split <;> simp [B8 k]
theorem G6 (h:s≠[])(hi:TP p s):0≤fu s∧fu s<p.length:=by
 cases s with
 | nil=>exact absurd rfl h
 | cons i s=>exact hi i (by simp)
theorem Cv {xs:List Int}{k:Nat}(h:k<xs.length):eU xs k (xs.getD k 0):=⟨by rw [List.getD_eq_getElem?_getD,List.getElem?_eq_getElem h];rfl⟩
theorem S2 (h:Ak p=0):0<p.length∧p.length≤40∧fh p p.length=0∧ch p p.length=[]∧nK p p.length=false:=by
 unfold Ak at h
 by_cases h1:p.length=0∨40<p.length
 ·rw [if_pos h1] at h;cases h
 rw [if_neg h1] at h
 by_cases h2:fh p p.length=0
 ·rw [if_neg (fun g=>g h2)] at h
  by_cases h3:ch p p.length=[]
  ·rw [if_neg (fun g=>g h3)] at h
   cases h4:nK p p.length
   ·exact⟨by omega,by omega,h2,h3,rfl⟩
   ·rw [if_pos h4] at h;cases h
  ·rw [if_pos h3] at h;cases h
 ·rw [if_pos h2] at h;exact absurd h h2
theorem Gi [r:Rd w0 L v dt 5 p](hv:ar v [v])(hl:p.length≤1000000)(hK:∀u,ar u [u]→G w0 (sl bg u (ny p)::L) (K u)):G w0 L (CP Tryz.prog Yg [.agg #[v]] K):=by
 refine GR ?_
 unfold zn
 refine G.box fun q=>?_
 refine gr ?_
 refine CT hv hl fun a=>?_
 unfold ny at hK
 by_cases hc:Ak p=0
 ·obtain⟨l0,l40,hw,_,_⟩:=S2 hc
  rw [if_pos hc] at hK
  refine gf hc ?_
  refine um hv l40 hw fun u hu=>?_
  refine gr ?_
  refine G.make bg 0 rfl (by simp only [maxLen];omega) (by omega) fun u2 hu2=>?_
  have hr:((List.replicate p.length (0:Int)).length:Int)=p.length:=by simp
  have hrl:=tC (p:=p)
  refine eY hr ?_
  refine G.loop1 (σ:=Nat×List Int) (fun z=>i64 z.1) (fun z=>sl bg u2 z.2::sl bg u (cj p)::own q [v]::L) (fun z=>z.1≤p.length∧z.2=List.replicate z.1 (-1)++List.replicate (p.length-z.1) 0) (fun z=>p.length-z.1) (0,List.replicate p.length 0) rfl rfl ⟨Nat.zero_le _,by simp⟩ ?_
  rintro⟨k,xs⟩ ⟨hk,hx⟩ J hJ
  simp only at hk hx hJ ⊢
  refine gr ?_
  refine G.cond (fun h=>?_) (fun h=>?_)
  ·have hk2:k<p.length:=by simp at h;omega
   have hxl:k<xs.length:=by rw [hx];simp;omega
   have e:=ct hxl
   have e3:xs.set k (-1)=List.replicate (k+1) (-1)++List.replicate (p.length-(k+1)) 0:=by
    rw [hx,List.set_append_right _ _ (by simp),List.length_replicate,Nat.sub_self,show p.length-k=(p.length-(k+1))+1 by omega,List.replicate_succ,List.set_cons_zero,List.replicate_succ',List.append_assoc]
    rfl
   refine gr ?_
   rw [di (by omega)]
   exact hJ (k+1,xs.set k (-1)) ⟨hk2,e3⟩ (by simp only;omega)
  ·have hk2:k=p.length:=by simp at h;omega
   have sF:xs=mv p 0:=by rw [hx,hk2,Nat.sub_self];simp [mv]
   subst sF
   refine gr ?_
   refine G.loop1 (fun k:Nat=>i64 k) (fun k=>sl bg u2 (mv p k)::sl bg u (cj p)::own q [v]::L) (fun k=>k≤p.length) (fun k=>p.length-k) 0 rfl rfl (Nat.zero_le _) ?_
   intro k hk J hJ
   refine gr ?_
   refine G.cond (fun h=>?_) (fun h=>?_)
   ·have hk2:k<p.length:=by simp at h;omega
    have e:=ct hk2
    have hgd:=wH hk2
    have hn:=hJ (k+1) hk2 (by omega)
    have es:mv p (k+1)=if 0<fq p[k].op then (mv p k).set ((cj p).getD k 0).toNat k else mv p k:=by rw [←hgd];rfl
    rw [es] at hn
    refine gr ?_
    refine G.new fun q2=>?_
    refine gr ?_
    refine qb ?_
    by_cases h0:0<fq p[k].op
    ·rw [if_pos h0] at hn
     have hne:=H8 (At hk2 hw) (by rw [hgd];exact h0)
     obtain⟨g1,g2⟩:=G6 hne.1 (Fe (p:=p) (k:=k) (by omega)).1
     have er:eU (cj p) k (fu (ch p k)):=⟨jH hk2⟩
     have erd:(cj p).getD k 0=fu (ch p k):=by rw [List.getD_eq_getElem?_getD,jH hk2];rfl
     rw [erd] at hn
     have ix:ij (fu (ch p k)) (fu (ch p k)).toNat:=⟨by omega⟩
     have ee:=Cv (xs:=mv p k) (k:=(fu (ch p k)).toNat) (by rw [EO];omega)
     repeat' (first | (with_reducible refine G.joini0 ?_) | (with_reducible refine G.joini1 ?_) | (with_reducible refine G.drew ?_) | (simp (maxSteps:=2000000) only [↓RG,RP,RB,BEq.rfl,Int.reduceEq,Int.reduceLT,Int.reduceLE,Nat.reduceEqDiff,eq_true h0]))
     rw [di (by omega)]
     exact hn.sub
    ·rw [if_neg h0] at hn
     refine gf h0 ?_
     rw [di (by omega)]
     exact hn.sub
   ·have hk2:k=p.length:=by simp at h;omega
    rw [hk2,show mv p p.length=i8 p 0 from rfl]
    refine gr ?_
    refine G.loop1 (fun k:Nat=>i64 k) (fun k=>sl bg u2 (i8 p k)::sl bg u (cj p)::own q [v]::L) (fun k=>k≤p.length) (fun k=>p.length-k) 0 rfl rfl (Nat.zero_le _) ?_
    intro k hk J hJ
    refine gr ?_
    refine G.cond (fun h=>?_) (fun h=>?_)
    ·have hk2:k<p.length:=by simp at h;omega
     have e:=ct hk2
     have hgd:=wH hk2
     have hn:=hJ (k+1) hk2 (by omega)
     have es:i8 p (k+1)=if p[k].op=16 then (i8 p k).set k ((i8 p k).getD ((cj p).getD k 0).toNat 0) else i8 p k:=by rw [←hgd];rfl
     rw [es] at hn
     refine gr ?_
     refine G.new fun q2=>?_
     by_cases h0:p[k].op=16
     ·rw [if_pos h0] at hn
      have hne:ch p k≠[]:=fun g=>by
       have:=At hk2 hw
       rw [hgd] at this
       unfold ia at this
       rw [if_neg (by rw [LR (p:=p) (s:=ch p k) (x:=p[k]) (by unfold ia;exact this)];decide),if_neg (fun z=>absurd z.1 (by rw [h0];decide)),if_pos ⟨h0,by rw [g];show (0:Int)≠14;decide⟩] at this
       cases this
      obtain⟨g1,g2⟩:=G6 hne (Fe (p:=p) (k:=k) (by omega)).1
      have er:eU (cj p) k (fu (ch p k)):=⟨jH hk2⟩
      have erd:(cj p).getD k 0=fu (ch p k):=by rw [List.getD_eq_getElem?_getD,jH hk2];rfl
      rw [erd] at hn
      have ix:ij (fu (ch p k)) (fu (ch p k)).toNat:=⟨by omega⟩
      have ee:=Cv (xs:=i8 p k) (k:=(fu (ch p k)).toNat) (by rw [B8];omega)
      have ek:=Cv (xs:=i8 p k) (k:=k) (by rw [B8];omega)
      repeat' (first | (with_reducible refine G.joini0 ?_) | (with_reducible refine G.joini1 ?_) | (with_reducible refine G.drew ?_) | (simp (maxSteps:=2000000) only [↓RG,RP,RB,BEq.rfl,Int.reduceEq,Int.reduceLT,Int.reduceLE,Nat.reduceEqDiff,eq_true h0]))
      rw [di (by omega)]
      exact hn.sub
     ·rw [if_neg h0] at hn
      refine gf h0 ?_
      rw [di (by omega)]
      exact hn.sub
    ·have hk2:k=p.length:=by simp at h;omega
     rw [hk2]
     exact(hK u2 hu2).sub
 ·rw [if_neg hc] at hK
  refine gf hc ?_
  refine G.nilsl bg ?_
  exact(hK _ be).sub
end
end Go.Proofs.YtoealglbimbbmaaGreatDoor.S
