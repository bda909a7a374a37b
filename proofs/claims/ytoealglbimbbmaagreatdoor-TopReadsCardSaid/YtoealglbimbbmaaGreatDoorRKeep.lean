import Derived.Test.YtoealglbimbbmaaGreatDoorRMac
import Derived.Test.YtoealglbimbbmaaGreatDoorArgs
namespace Go.Proofs.YtoealglbimbbmaaGreatDoor.S
open Go Go.Proofs
set_option linter.unusedVariables false
set_option linter.unusedSimpArgs false
structure rK where
 words:Int
 stripes:Int
 wide:Int
 spins:Int
 writes:Int
 fuel:Int
 start:Int
 deriving DecidableEq
abbrev rK.cells (a:rK):List Value:=[i64 a.words,i64 a.stripes,i64 a.wide,i64 a.spins,i64 a.writes,i64 a.fuel,u64 a.start]
abbrev ND:List CK:=[.i .i64,.i .i64,.i .i64,.i .i64,.i .i64,.i .i64,.i .u64]
abbrev Dq:jB rK:=⟨7,rK.cells,fun | [.int .i64 x0,.int .i64 x1,.int .i64 x2,.int .i64 x3,.int .i64 x4,.int .i64 x5,.int .u64 x6]=>some ⟨x0,x1,x2,x3,x4,x5,x6⟩ | _=>none,by decide,fun _=>rfl,by simp [one],fun cs a h=>by split at h <;> cases h;rfl⟩
instance {a:rK}:e9 Dq a [i64 a.words,i64 a.stripes,i64 a.wide,i64 a.spins,i64 a.writes,i64 a.fuel,u64 a.start]:=⟨rfl⟩
instance {x0:Int}{x1:Int}{x2:Int}{x3:Int}{x4:Int}{x5:Int}{x6:Int}:fy Dq [i64 x0,i64 x1,i64 x2,i64 x3,i64 x4,i64 x5,u64 x6] ⟨x0,x1,x2,x3,x4,x5,x6⟩:=⟨rfl⟩
theorem QH {cs:List Value}(h:good ND cs):∃a:rK,Dq.enc a=cs:=by
 obtain⟨x0,l0,e0,_,h0⟩:=lI h
 obtain⟨x1,l1,e1,_,h1⟩:=lI h0
 obtain⟨x2,l2,e2,_,h2⟩:=lI h1
 obtain⟨x3,l3,e3,_,h3⟩:=lI h2
 obtain⟨x4,l4,e4,_,h4⟩:=lI h3
 obtain⟨x5,l5,e5,_,h5⟩:=lI h4
 obtain⟨x6,l6,e6,_,h6⟩:=lI h5
 have e:=GX h6
 exact⟨⟨x0,x1,x2,x3,x4,x5,x6⟩,by subst e;subst e6;subst e5;subst e4;subst e3;subst e2;subst e1;subst e0;rfl⟩
structure xj where
 t:Int
 draw:Int
 n:Int
 deriving DecidableEq
abbrev xj.cells (a:xj):List Value:=[i64 a.t,.int .u8 a.draw,i64 a.n]
abbrev NY:List CK:=[.i .i64,.i .u8,.i .i64]
abbrev CV:jB xj:=⟨3,xj.cells,fun | [.int .i64 x0,.int .u8 x1,.int .i64 x2]=>some ⟨x0,x1,x2⟩ | _=>none,by decide,fun _=>rfl,by simp [one],fun cs a h=>by split at h <;> cases h;rfl⟩
instance {a:xj}:e9 CV a [i64 a.t,.int .u8 a.draw,i64 a.n]:=⟨rfl⟩
instance {x0:Int}{x1:Int}{x2:Int}:fy CV [i64 x0,.int .u8 x1,i64 x2] ⟨x0,x1,x2⟩:=⟨rfl⟩
theorem Q8 {cs:List Value}(h:good NY cs):∃a:xj,CV.enc a=cs:=by
 obtain⟨x0,l0,e0,_,h0⟩:=lI h
 obtain⟨x1,l1,e1,_,h1⟩:=lI h0
 obtain⟨x2,l2,e2,_,h2⟩:=lI h1
 have e:=GX h2
 exact⟨⟨x0,x1,x2⟩,by subst e;subst e2;subst e1;subst e0;rfl⟩
section
variable {w0:bg}{L M:List ax}{K:KV}{F:World→Prop}{C:ax→List ax}{b:Nat}{x:jL}{v:Value}
abbrev Pf (g:rK):dQ:=⟨gn g.words 32 80,gn g.stripes 1 16,gn g.wide 1 4,0,g.start.tmod 1000,gn g.spins 0 4,gn g.writes 4 40,gn g.fuel 20 120⟩
theorem AM {g:rK}[i:av v (rK.cells g)](hK:G w0 L (K (.agg (dQ.cells (Pf g)).toArray))):G w0 L (CP Tryz.prog aaJ [v] K):=by
 refine Ai ?_
 unfold qC
 refine G.box fun p=>?_
 refine G.new fun q=>?_
 have nz:gZ (1000:Int):=⟨by decide⟩
 repeat' (first
  | exact hK.sub
  | (with_reducible refine⟨?_,?_⟩)
  | (with_reducible refine G.drew ?_)
  | (refine iN (by decide) (by decide) (by decide) (by decide) ?_)
  | (simp (maxSteps:=2000000) only [↓RG,RP,RB,BEq.rfl,Int.reduceEq,Int.reduceLT,Int.reduceLE,Nat.reduceEqDiff])
  | (refine G.new fun q2=>?_))
theorem Ng {q:xj}{a:Value}{k:Int}[i:av v (xj.cells q)](h0:0≤k)(h1:k≤1000)(hK:G w0 L (K (i64 (gn q.n 0 k)))):G w0 L (CP Tryz.prog aaK [a,v,i64 k] K):=by
 refine Nl ?_
 unfold Fy
 refine G.box fun p=>?_
 refine gg ?_
 refine iN (by decide) h0 (by omega) (by omega) ?_
 exact hK.sub
end
def f9 (c:eu):Int:=if 1≤c.what∧c.what≤12 then c.what else gn c.what 1 12
def Sa (c:eu):Int:=c.k.tmod 12
def RL (c:eu):Int:=c.x.tmod 12
section
variable {w0:bg}{L M:List ax}{K:KV}{C:ax→List ax}{b:Nat}
theorem EO {v:Value}{c:eu}[i:av v (eu.cells c)](hK:G w0 L (K (u64 (Sa c)))):G w0 L (CP Tryz.prog abg [v] K):=by
 refine EZ ?_
 unfold uH
 unfold Sa at hK
 refine G.box fun x1=>?_
 refine gr ?_
 exact hK.drop
theorem EK {v:Value}{c:eu}[i:av v (eu.cells c)](hK:G w0 L (K (u64 (RL c)))):G w0 L (CP Tryz.prog abh [v] K):=by
 refine Ez ?_
 unfold uM
 unfold RL at hK
 refine G.box fun x1=>?_
 refine gr ?_
 exact hK.drop
theorem rG {v:Value}{c:eu}[i:av v (eu.cells c)](hK:G w0 L (K (i64 (f9 c)))):G w0 L (CP Tryz.prog Y1 [v] K):=by
 refine Cf ?_
 unfold rL
 unfold f9 at hK
 refine G.box fun x1=>?_
 by_cases h1:1≤c.what
 ·by_cases h2:c.what≤12
  ·rw [if_pos ⟨h1,h2⟩] at hK
   refine dN (an (eq_true h1) (eq_true h2)) ?_
   exact hK.drop
  ·rw [if_neg (fun h=>h2 h.2)] at hK
   refine dN (an (eq_true h1) h2) ?_
   refine iN (by omega) (by omega) (by omega) (by omega) ?_
   exact hK.drop
 ·rw [if_neg (fun h=>h1 h.1)] at hK
  refine dN h1 ?_
  refine iN (by omega) (by omega) (by omega) (by omega) ?_
  exact hK.drop
end
set_option maxRecDepth 100000
theorem CP.at {P:Program}{f:FuncId}{args:List Value}{w0:bg}{L:List ax}{r:Value}{w:World}(h:∀K,G w0 L (K r)→G w0 L (CP P f args K))(H:St w0 L w):Calls P f args.toArray w fun e w'=>e=.returned r∧St w0 L w':=by
 have h2:=(h (fun v w'=>v=r∧St w0 L w') (fun w hw=>⟨rfl,hw⟩) w H).2
 refine h2.mono fun e w' he=>?_
 cases e <;> first | exact absurd he id | skip
 obtain⟨rfl,h3⟩:=he
 exact⟨rfl,h3⟩
def OH (n:Int):Int:=if n=4∨n=5∨n=6 then 1 else if n=7∨n=8 then 2 else if 9≤n then 3 else 0
def AL (c:eu):Int:=2*OH (f9 c)+gn c.root 0 1
theorem B9 (c:eu):f9 c=1∨f9 c=2∨f9 c=3∨f9 c=4∨f9 c=5∨f9 c=6∨f9 c=7∨f9 c=8∨f9 c=9∨f9 c=10∨f9 c=11∨f9 c=12:=by
 unfold f9
 split
 ·omega
 ·unfold gn;omega
theorem TP {w0:bg}{L:List ax}{c:eu}{w:World}{n m:Int}(H:St w0 L w)(e0:f9 c=n)(hm:0≤m∧m≤3)(x1:∀w:World,(Instr.index 251 (.agg #[.int .i64 0,.int .i64 0,.int .i64 0,.int .i64 0,.int .i64 1,.int .i64 1,.int .i64 1,.int .i64 2,.int .i64 2,.int .i64 3,.int .i64 3,.int .i64 3,.int .i64 3]) (.int .i64 n)).run Tryz.prog w=.ok (.int .i64 m) w):Calls Tryz.prog Y2 #[.agg (eu.cells c).toArray] w fun e w'=>e=.returned (i64 (2*m+gn c.root 0 1))∧St w0 L w':=by
 have hW:∀{L':List ax} {W:World},St w0 L' W→Calls Tryz.prog Y1 #[.agg (eu.cells c).toArray] W fun e w'=>e=.returned (i64 (f9 c))∧St w0 L' w':=fun H=>CP.at (args:=[.agg (eu.cells c).toArray]) (fun K hK=>rG (v:=.agg (eu.cells c).toArray) hK) H
 have hn:∀{L':List ax} {W:World},St w0 L' W→Calls Tryz.prog dg #[i64 c.root,i64 0,i64 1] W fun e w'=>e=.returned (i64 (gn c.root 0 1))∧St w0 L' w':=fun H=>CP.at (args:=[i64 c.root,i64 0,i64 1]) (fun K hK=>iN (by omega) (by omega) (by omega) (by omega) hK) H
 rw [e0] at hW
 have hb:0≤gn c.root 0 1∧gn c.root 0 1≤1:=by unfold gn;omega
 generalize gn c.root 0 1=z at hn hb ⊢
 go_enter Tryz.func125,Tryz.ntmps125
 go_wp2_with (first | (go_at_call 122;refine(hW (L':=own w.heap.size (eu.cells c)::L) (H.alloc (eu.cells c) _)).mono ?_;rintro e w' ⟨rfl,H2⟩;have hc:=H2.own_mem;have hc1:w'.cell? ⟨w.heap.size,1,none⟩=some (i64 c.root):=by(rw [j9 hc.2.1];rfl)) | (go_at_call 30;refine(hn (L':=own w.heap.size (eu.cells c)::L) H2).mono ?_;rintro e w' ⟨rfl,H3⟩))
 go_ret
 refine⟨?_,H3.drop⟩
 have w1:RowKit.wrap64 (2*m)=2*m:=by unfold RowKit.wrap64;omega
 have w2:RowKit.wrap64 (2*m+z)=2*m+z:=by unfold RowKit.wrap64;omega
 simp only [w1,w2]
 rfl
theorem xb {w0:bg}{L:List ax}{c:eu}{w:World}(H:St w0 L w):Calls Tryz.prog Y2 #[.agg (eu.cells c).toArray] w fun e w'=>e=.returned (i64 (AL c))∧St w0 L w':=by
 unfold AL
 rcases B9 c with h | h | h | h | h | h | h | h | h | h | h | h <;> rw [h] <;> exact TP H h (by decide) (fun _=>by kernel_rfl)
theorem CI {w0:bg}{L:List ax}{K:KV}{v:Value}{c:eu}[i:av v (eu.cells c)](hK:G w0 L (K (i64 (AL c)))):G w0 L (CP Tryz.prog Y2 [.agg (eu.cells c).toArray] K):=fun w H =>
 ⟨⟨_,Tryz.func125,by kernel_rfl,by kernel_rfl⟩,(xb (c:=c) H).mono fun e w' he=>by obtain⟨rfl,h⟩:=he;exact hK _ h⟩
theorem QW (c:eu):0≤AL c∧AL c≤7:=by
 have h1:0≤OH (f9 c)∧OH (f9 c)≤3:=by unfold OH;split <;> (try split) <;> (try split) <;> omega
 have h2:=Dx (n:=c.root) (show (0:Int)≤1 by decide)
 unfold AL
 omega
theorem QT (c:eu):1≤f9 c∧f9 c≤12:=by have:=B9 c;omega
theorem TK {c:eu}(h:fF c.k):fF (Sa c):=by
 have h1:=Int.tmod_nonneg 12 h.1
 have h2:=Int.tmod_lt_of_pos c.k (show (0:Int)<12 by decide)
 unfold Sa fF
 omega
theorem Tk {c:eu}(h:fF c.x):fF (RL c):=by
 have h1:=Int.tmod_nonneg 12 h.1
 have h2:=Int.tmod_lt_of_pos c.x (show (0:Int)<12 by decide)
 unfold RL fF
 omega
abbrev Lu (c:eu):List dD:=[⟨1,1,0,0,Sa c⟩,⟨1,2,0,0,RL c⟩,⟨23,f9 c,AL c,1,0⟩]
def NT (k:dD):Prop:=I5 k∧fF k.n
theorem SN {c:eu}(hk:fF c.k)(hx:fF c.x):∀k∈Lu c,NT k:=by
 have h1:=QT c
 have h2:=QW c
 have h3:=TK hk
 have h4:=Tk hx
 intro k hm
 simp only [List.mem_cons,List.not_mem_nil,or_false] at hm
 unfold NT I5 th
 rcases hm with rfl | rfl | rfl
 ·exact⟨.inl ⟨rfl,by simp,rfl,rfl⟩,h3⟩
 ·exact⟨.inl ⟨rfl,by simp,rfl,rfl⟩,h4⟩
 ·exact⟨.inr (.inr (.inr (.inr ⟨rfl,h1.1,h1.2,h2.1,h2.2,rfl,rfl⟩))),iy⟩
section
variable {w0:bg}{L M:List ax}{K:KV}{F:World→Prop}{C:ax→List ax}{b:Nat}{x:jL}{v:Value}
theorem EJ {c:eu}[i:av v (eu.cells c)](hK:∀s:im,G w0 (sl fv s.v (Lu c)::L) (K s.v)):G w0 L (CP Tryz.prog aa4 [v] K):=by
 refine EM ?_
 unfold uu
 refine G.box fun p=>?_
 refine gu ?_
 refine gg ?_
 refine rG (c:=c) ?_
 repeat' (first | (with_reducible refine G.joini0 ?_) | (with_reducible refine G.joini1 ?_) | (with_reducible refine G.drew ?_) | (simp (maxSteps:=2000000) only [↓RG,RP,RB,BEq.rfl,Int.reduceEq,Int.reduceLT,Int.reduceLE,Nat.reduceEqDiff]))
 refine EO (c:=c) ?_
 refine gg ?_
 refine EK (c:=c) ?_
 refine gg ?_
 refine CI (c:=c) (v:=v) ?_
 refine gg ?_
 refine G.build fv (Lu c) rfl (by decide) rfl fun y hy=>?_
 refine G.isSl (v:=y) fun s e=>?_
 subst e
 exact(hK s).sub
theorem KI {cs:List eu}[a:E8 w0 v t7 cs](hcs:∀c∈cs,fF c.k∧fF c.x)(hK:∀(s:im)(xs:List dD),(0<xs.length∧xs.length≤10)→(∀k∈xs,NT k)→G w0 (sl fv s.v xs::L) (K (.agg #[s.v]))):G w0 L (CP Tryz.prog aaV [v,i64 3] K):=by
 refine KM ?_
 unfold BE
 refine G.new fun rp=>?_
 refine G.new fun ip=>?_
 refine G.nilsl fv ?_
 refine G.sub (L':=own ip [.slice none 0 0]::sl fv (.slice none 0 0) []::own rp [.slice none 0 0]::L) ?_
 refine G.loop1 (σ:=Nat×List dD×Value) (fun z=>i64 z.1) (fun z=>own ip [z.2.2]::sl fv z.2.2 z.2.1::own rp [.slice none 0 0]::L) (fun z=>z.1≤3∧z.2.1.length=3*z.1∧(∀k∈z.2.1,NT k)∧av z.2.2 [z.2.2]) (fun z=>3-z.1) (0,[],.slice none 0 0) rfl rfl ⟨by decide,rfl,by simp,bf⟩ ?_
 rintro⟨i,xs,u⟩ ⟨hi,hl,hx,hu⟩ J hJ
 simp only at hi hl hx hu hJ ⊢
 have hlast:∀(u:Value) (xs:List dD),av u [u]→(0<xs.length∧xs.length≤10)→(∀k∈xs,NT k)→G w0 (own ip [u]::sl fv u xs::own rp [u]::L) (K (.agg #[u])):=fun u xs hu hl hx=>by
  refine G.isSl (v:=u) fun s e=>?_
  subst e
  exact(hK s xs hl hx).sub
 have hend:G w0 (own ip [u]::sl fv u xs::own rp [.slice none 0 0]::L) (ae (.bool (decide ((xs.length:Int)=0))) (aa (ptr ip 0) fun x27=>ap [i64 0,i64 0,i64 0,i64 0,u64 0] 1 [(0,5,.agg #[i64 1,i64 1,i64 0,i64 0,u64 1])] fun x29=>bv 5 40 x27 x29 fun x30=>ag 1 (ptr ip 0) x30 fun _=>aj 1 (ptr ip 0) fun x23=>ag 1 (ptr rp 0) x23 fun _=>aj 1 (ptr rp 0) fun x25=>K x25) (aj 1 (ptr ip 0) fun x23=>ag 1 (ptr rp 0) x23 fun _=>aj 1 (ptr rp 0) fun x25=>K x25)):=by
  refine G.cond (fun h=>?_) (fun h=>?_)
  ·have rZ:xs=[]:=by simpa using h
   subst rZ
   refine gg ?_
   refine G.build fv [⟨1,1,0,0,1⟩] rfl (by decide) rfl fun y hy=>?_
   refine G.append (E:=fv) (v:=u) (xs:=([]:List dD)) (ys:=[⟨1,1,0,0,1⟩]) (by simp) (by simp [maxLen]) fun u2 hu2=>?_
   refine gg ?_
   refine(hlast u2 ([]++[⟨1,1,0,0,1⟩]) hu2 (by simp) fun k hk=>?_).sub
   rw [List.nil_append] at hk
   rw [List.mem_singleton.1 hk]
   exact⟨.inl ⟨rfl,⟨by decide,by decide⟩,rfl,rfl⟩,⟨by decide,by decide⟩⟩
  ·have rZ:0<xs.length:=by simp only [decide_eq_false_iff_not] at h;omega
   refine gg ?_
   exact(hlast u _ hu ⟨rZ,by omega⟩ hx).sub
 by_cases c:i<cs.length
 ·have c1:(i:Int)<cs.length:=by omega
  have e:eA cs i cs[i]:=⟨List.getElem?_eq_getElem c⟩
  have hc:=hcs _ (List.getElem_mem c)
  refine gu ?_
  refine gf (eq_true c1) ?_
  refine G.cond (fun h3=>?_) (fun h3=>?_)
  ·have hi3:i<3:=by simp only [decide_eq_true_eq] at h3;omega
   repeat' (first | (with_reducible refine G.joini0 ?_) | (with_reducible refine G.joini1 ?_) | (with_reducible refine G.drew ?_) | (simp (maxSteps:=2000000) only [↓RG,RP,RB,BEq.rfl,Int.reduceEq,Int.reduceLT,Int.reduceLE,Nat.reduceEqDiff]))
   refine EJ (c:=cs[i]) fun s=>?_
   refine gg ?_
   refine G.append (E:=fv) (v:=u) (xs:=xs) (ys:=Lu cs[i]) (by simp;omega) (by simp [maxLen];omega) fun u2 hu2=>?_
   refine gg ?_
   rw [dt (by omega)]
   refine(hJ (i+1,xs++Lu cs[i],u2) ⟨hi3,by simp;omega,fun k hk=>?_,hu2⟩ (by simp only;omega)).sub
   rcases List.mem_append.1 hk with g | g
   ·exact hx k g
   ·exact SN hc.1 hc.2 k g
  ·refine gg ?_
   exact hend.sub
 ·have c1:¬(i:Int)<cs.length:=by omega
  refine gu ?_
  refine gf c1 ?_
  exact hend.sub
abbrev tQ (g:rK):dQ:={ Pf g with words:=256,writes:=96,fuel:=400 }
theorem LL {g:rK}[i:av v (rK.cells g)](hK:G w0 L (K (.agg (dQ.cells (tQ g)).toArray))):G w0 L (CP Tryz.prog aaN [v] K):=by
 refine LP ?_
 unfold D6
 refine G.box fun p=>?_
 refine G.new fun q=>?_
 refine gg ?_
 refine AM (g:=g) ?_
 refine G.new fun r=>?_
 refine gg ?_
 exact hK.sub
structure V1 (rows:List (List (List dD))):Prop where
 few:rows.length=3
 ok:∀r∈rows,r.length≤4∧∀p∈r,(0<p.length∧p.length≤10)∧∀k∈p,NT k
theorem FX {α:Type}{l:List α}{k j:Nat}{y z:α}(h:(l.set k y)[j]? = some z):(j=k∧z=y)∨(j≠k∧l[j]? = some z):=by
 rw [List.getElem?_set] at h
 split at h
 ·rename_i e
  split at h
  ·exact .inl ⟨e.symm,(Option.some.inj h).symm⟩
  ·cases h
 ·rename_i e
  exact .inr ⟨fun g=>e g.symm,h⟩
instance {s:im}:fy dY [.slice s.a s.n s.c] s:=⟨rfl⟩
abbrev Kf (p:im×List im):ax:=sl dY p.1.v p.2
structure U8 (i:Nat)(l:List (im×List (List dD)))(h:List (im×List im)):Prop where
 n:i≤12∧l.length=3∧h.length=3
 len:∀(k:Nat) (q:im×List (List dD)),l[k]? = some q→q.2.length=(i+2-k) / 3
 ok:∀(k:Nat) (q:im×List (List dD)),l[k]? = some q→∀p∈q.2,(0<p.length∧p.length≤10)∧∀j∈p,NT j
 hid:∀(k:Nat) (q:im×List im),h[k]? = some q→q.2.length≤i
theorem M9 {xs:List im}[a:E8 w0 v dY xs](hx:∀x∈xs,∃cs:List eu,E8 w0 x.v t7 cs∧∀c∈cs,fF c.k∧fF c.x)(hK:∀u u2 rows,av u [u]→V1 rows→G w0 (ob IL u rows::L) (K (.tuple #[u,u2]))):G w0 L (CP Tryz.prog aaM [v,i64 3] K):=by
 refine MQ ?_
 unfold Ea
 refine G.make (n:=3) dY ⟨none,0,0⟩ rfl (by simp [maxLen]) (by omega) fun u hu=>?_
 refine G.make (n:=3) dY ⟨none,0,0⟩ rfl (by simp [maxLen]) (by omega) fun u2 hu2=>?_
 have hnil:∀{M:List ax} {F:World→Prop},G w0 (qX (⟨none,0,0⟩,[])::M) F→G w0 M F:=fun H=>by
  refine ll (f:=qo) ?_
  refine G.nilsl dY ?_
  exact Fc (.slice none 0 0) [] (ps:=[]) (rs:=[]) rfl rfl H
 have hnil2:∀{M:List ax} {F:World→Prop},G w0 (Kf (⟨none,0,0⟩,[])::M) F→G w0 M F:=fun H=>G.nilsl dY H
 refine ll (f:=qX) ?_
 refine hnil ?_
 rw [←gy]
 refine hnil ?_
 rw [←gy]
 refine hnil ?_
 rw [←gy]
 refine ll (f:=Kf) ?_
 refine hnil2 ?_
 rw [←gy]
 refine hnil2 ?_
 rw [←gy]
 refine hnil2 ?_
 rw [←gy]
 show G w0 (ob (co Kf) () (List.replicate 3 ((⟨none,0,0⟩,[]):im×List im))::ob (co qX) () (List.replicate 3 ((⟨none,0,0⟩,[]):im×List (List dD)))::sl dY u2 ((List.replicate 3 ((⟨none,0,0⟩,[]):im×List im)).map fun p=>p.1)::sl dY u ((List.replicate 3 ((⟨none,0,0⟩,[]):im×List (List dD))).map fun p=>p.1)::L) _
 refine G.sub (L':=sl dY u ((List.replicate 3 ((⟨none,0,0⟩,[]):im×List (List dD))).map fun p=>p.1)::ob (co qX) () (List.replicate 3 ((⟨none,0,0⟩,[]):im×List (List dD)))::sl dY u2 ((List.replicate 3 ((⟨none,0,0⟩,[]):im×List im)).map fun p=>p.1)::ob (co Kf) () (List.replicate 3 ((⟨none,0,0⟩,[]):im×List im))::L) ?_
 refine G.loop1 (σ:=Nat×List (im×List (List dD))×List (im×List im)) (fun z=>i64 z.1) (fun z=>sl dY u (z.2.1.map (·.1))::ob (co qX) () z.2.1::sl dY u2 (z.2.2.map (·.1))::ob (co Kf) () z.2.2::L) (fun z=>U8 z.1 z.2.1 z.2.2) (fun z=>12-z.1) (0,List.replicate 3 (⟨none,0,0⟩,[]),List.replicate 3 (⟨none,0,0⟩,[])) rfl rfl ⟨by simp,fun k q e=>?_,fun k q e=>?_,fun k q e=>?_⟩ ?_
 ·rw [List.eq_of_mem_replicate (List.mem_of_getElem? e)]
  have:=(List.getElem?_eq_some_iff.1 e).1
  simp only [List.length_replicate,List.length_nil] at this ⊢
  omega
 ·rw [List.eq_of_mem_replicate (List.mem_of_getElem? e)]
  simp
 ·rw [List.eq_of_mem_replicate (List.mem_of_getElem? e)]
  simp
 rintro⟨i,l,h⟩ ⟨⟨hi,hl,hh⟩,hlen,hok,hhid⟩ J hJ
 simp only at hi hl hh hlen hok hhid hJ ⊢
 have hend:G w0 (sl dY u (l.map (·.1))::ob (co qX) () l::sl dY u2 (h.map (·.1))::ob (co Kf) () h::L) (K (.tuple #[u,u2])):=by
  refine Pz u l (ps:=l.map (·.1)) (rs:=l.map (·.2)) rfl rfl ?_
  refine(hK u u2 (l.map (·.2)) hu ⟨by rw [List.length_map];exact hl,fun r hr=>?_⟩).sub
  obtain⟨q,hq,rfl⟩:=List.mem_map.1 hr
  obtain⟨k,hk⟩:=List.getElem?_of_mem hq
  exact⟨by rw [hlen k q hk];omega,hok k q hk⟩
 by_cases c:i<xs.length
 ·have c1:(i:Int)<xs.length:=by omega
  have e:eA xs i xs[i]:=⟨List.getElem?_eq_getElem c⟩
  obtain⟨cs,ha,hc⟩:=hx _ (List.getElem_mem c)
  refine gu ?_
  refine gf (eq_true c1) ?_
  refine G.cond (fun h3=>?_) (fun h3=>?_)
  ·have hi3:i<12:=by simp only [decide_eq_true_eq] at h3;omega
   have nz:gZ (3:Int):=⟨by decide⟩
   obtain⟨k,hk⟩:∃k:Nat,k=i % 3:=⟨_,rfl⟩
   have hk3:k<3:=by omega
   have ix:iA ((i:Int).tmod 3) k:=⟨by rw [hk,Int.tmod_eq_emod_of_nonneg (by omega)];omega⟩
   obtain⟨q,hq⟩:∃q,l[k]? = some q:=⟨_,List.getElem?_eq_getElem (by omega)⟩
   obtain⟨r,hr⟩:∃r,h[k]? = some r:=⟨_,List.getElem?_eq_getElem (by omega)⟩
   have e1:eA (l.map (·.1)) k q.1:=⟨by rw [List.getElem?_map,hq];rfl⟩
   have e2:eA (h.map (·.1)) k r.1:=⟨by rw [List.getElem?_map,hr];rfl⟩
   have hq1:=hlen k q hq
   have hr1:=hhid k r hr
   repeat' (first | (with_reducible refine G.joini0 ?_) | (with_reducible refine G.joini1 ?_) | (with_reducible refine G.drew ?_) | (simp (maxSteps:=2000000) only [↓RG,RP,RB,BEq.rfl,Int.reduceEq,Int.reduceLT,Int.reduceLE,Nat.reduceEqDiff]))
   refine KI (cs:=cs) hc fun s ps hp1 hp2=>?_
   refine gg ?_
   refine G.build dY [s] rfl (by decide) rfl fun y hy3=>?_
   refine G.take1 (co qX) () ?_
   rw [jl hq,pR]
   intro l2 hl2
   have hl3:l2.length=q.2.length:=by rw [←hl2,List.length_map]
   refine gg ?_
   refine G.append (E:=dY) (v:=q.1.v) (xs:=l2.map fun z:im×List dD=>z.1) (ys:=[s]) (by simp;omega) (by simp [maxLen];omega) fun u3 h3=>?_
   refine G.isSl (v:=u3) fun s3 e3=>?_
   subst e3
   refine gg ?_
   refine G.take1 (co Kf) () ?_
   rw [jl hr]
   repeat' (first | (with_reducible refine G.joini0 ?_) | (with_reducible refine G.joini1 ?_) | (with_reducible refine G.drew ?_) | (simp (maxSteps:=2000000) only [↓RG,RP,RB,BEq.rfl,Int.reduceEq,Int.reduceLT,Int.reduceLE,Nat.reduceEqDiff]))
   refine G.build dY [xs[i]] rfl (by decide) rfl fun y4 hy4=>?_
   refine gg ?_
   refine G.append (E:=dY) (v:=r.1.v) (xs:=r.2) (ys:=[xs[i]]) (by simp;omega) (by simp [maxLen];omega) fun u4 h4=>?_
   refine G.isSl (v:=u4) fun s4 e4=>?_
   subst e4
   refine gg ?_
   rw [dt (by omega)]
   have hn:=hJ (i+1,l.set k (s3,q.2++[ps]),h.set k (s4,r.2++[xs[i]])) ⟨⟨hi3,by simpa using hl,by simpa using hh⟩,fun j z hz=>?_,fun j z hz=>?_,fun j z hz=>?_⟩ (by simp only;omega)
   ·simp only [List.map_set] at hn
    refine G.pickAll (As:=[qo (s,ps),ob (co qo) () l2]) ?_
    rw [List.cons_append,List.cons_append,List.nil_append,←gy]
    refine Fc s3.v (l2++[(s,ps)]) (ps:=(l2.map fun z:im×List dD=>z.1)++[s]) (rs:=q.2++[ps]) (by simp) (by simp [hl2]) ?_
    refine G.pickAll (As:=[ob gY s3.v (q.2++[ps]),ob (co qX) () (l.eraseIdx k)]) ?_
    rw [List.cons_append,List.cons_append,List.nil_append]
    refine Eq.mp (Kp (f:=qX) (y:=(s3,q.2++[ps])) (l:=l) (k:=k) (by omega)) ?_
    refine G.pickAll (As:=[sl dY s4.v (r.2++[xs[i]]),ob (co Kf) () (h.eraseIdx k)]) ?_
    rw [List.cons_append,List.cons_append,List.nil_append]
    refine Eq.mp (Kp (f:=Kf) (y:=(s4,r.2++[xs[i]])) (l:=h) (k:=k) (by omega)) ?_
    exact hn.sub
   ·have hz3:=(List.getElem?_eq_some_iff.1 hz).1
    rw [List.length_set] at hz3
    rcases FX hz with ⟨g1,g2⟩ | ⟨g1,g2⟩
    ·rw [g2,g1]
     show (q.2++[ps]).length=_
     rw [List.length_append,List.length_singleton,hq1]
     omega
    ·rw [hlen j z g2]
     omega
   ·rcases FX hz with ⟨g1,g2⟩ | ⟨g1,g2⟩
    ·rw [g2]
     intro p hp
     rcases List.mem_append.1 hp with g | g
     ·exact hok k q hq p g
     ·rw [List.mem_singleton.1 g]
      exact⟨hp1,hp2⟩
    ·exact hok j z g2
   ·rcases FX hz with ⟨g1,g2⟩ | ⟨g1,g2⟩
    ·rw [g2]
     show (r.2++[xs[i]]).length≤_
     rw [List.length_append,List.length_singleton]
     omega
    ·have:=hhid j z g2
     omega
  ·repeat' (first | (with_reducible refine G.joini0 ?_) | (with_reducible refine G.joini1 ?_) | (with_reducible refine G.drew ?_) | (simp (maxSteps:=2000000) only [↓RG,RP,RB,BEq.rfl,Int.reduceEq,Int.reduceLT,Int.reduceLE,Nat.reduceEqDiff]))
   exact hend.sub
 ·have c1:¬(i:Int)<xs.length:=by omega
  refine gu ?_
  refine gf c1 ?_
  exact hend.sub
end
end Go.Proofs.YtoealglbimbbmaaGreatDoor.S
