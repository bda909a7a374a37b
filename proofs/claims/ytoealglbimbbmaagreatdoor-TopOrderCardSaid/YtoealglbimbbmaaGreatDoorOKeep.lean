import Derived.Test.YtoealglbimbbmaaGreatDoorOMac
import Derived.Test.YtoealglbimbbmaaGreatDoorArgs
namespace Go.Proofs.YtoealglbimbbmaaGreatDoor.S
open Go Go.Proofs
set_option linter.unusedVariables false
set_option linter.unusedSimpArgs false
structure wq where
 words:Int
 stripes:Int
 wide:Int
 spins:Int
 writes:Int
 fuel:Int
 start:Int
 deriving DecidableEq
abbrev wq.cells (a:wq):List Value:=[i64 a.words,i64 a.stripes,i64 a.wide,i64 a.spins,i64 a.writes,i64 a.fuel,u64 a.start]
abbrev La:List CK:=[.i .i64,.i .i64,.i .i64,.i .i64,.i .i64,.i .i64,.i .u64]
abbrev Cn:jS wq:=⟨7,wq.cells,fun | [.int .i64 x0,.int .i64 x1,.int .i64 x2,.int .i64 x3,.int .i64 x4,.int .i64 x5,.int .u64 x6]=>some ⟨x0,x1,x2,x3,x4,x5,x6⟩ | _=>none,by decide,fun _=>rfl,by simp [one],fun cs a h=>by split at h <;> cases h;rfl⟩
instance {a:wq}:fx Cn a [i64 a.words,i64 a.stripes,i64 a.wide,i64 a.spins,i64 a.writes,i64 a.fuel,u64 a.start]:=⟨rfl⟩
instance {x0:Int}{x1:Int}{x2:Int}{x3:Int}{x4:Int}{x5:Int}{x6:Int}:gx Cn [i64 x0,i64 x1,i64 x2,i64 x3,i64 x4,i64 x5,u64 x6] ⟨x0,x1,x2,x3,x4,x5,x6⟩:=⟨rfl⟩
theorem NS {cs:List Value}(h:good La cs):∃a:wq,Cn.enc a=cs:=by
 obtain⟨x0,l0,e0,_,h0⟩:=kW h
 obtain⟨x1,l1,e1,_,h1⟩:=kW h0
 obtain⟨x2,l2,e2,_,h2⟩:=kW h1
 obtain⟨x3,l3,e3,_,h3⟩:=kW h2
 obtain⟨x4,l4,e4,_,h4⟩:=kW h3
 obtain⟨x5,l5,e5,_,h5⟩:=kW h4
 obtain⟨x6,l6,e6,_,h6⟩:=kW h5
 have e:=EY h6
 exact⟨⟨x0,x1,x2,x3,x4,x5,x6⟩,by subst e;subst e6;subst e5;subst e4;subst e3;subst e2;subst e1;subst e0;rfl⟩
structure xB where
 t:Int
 draw:Int
 n:Int
 deriving DecidableEq
abbrev xB.cells (a:xB):List Value:=[i64 a.t,.int .u8 a.draw,i64 a.n]
abbrev LD:List CK:=[.i .i64,.i .u8,.i .i64]
abbrev Cm:jS xB:=⟨3,xB.cells,fun | [.int .i64 x0,.int .u8 x1,.int .i64 x2]=>some ⟨x0,x1,x2⟩ | _=>none,by decide,fun _=>rfl,by simp [one],fun cs a h=>by split at h <;> cases h;rfl⟩
instance {a:xB}:fx Cm a [i64 a.t,.int .u8 a.draw,i64 a.n]:=⟨rfl⟩
instance {x0:Int}{x1:Int}{x2:Int}:gx Cm [i64 x0,.int .u8 x1,i64 x2] ⟨x0,x1,x2⟩:=⟨rfl⟩
theorem NE {cs:List Value}(h:good LD cs):∃a:xB,Cm.enc a=cs:=by
 obtain⟨x0,l0,e0,_,h0⟩:=kW h
 obtain⟨x1,l1,e1,_,h1⟩:=kW h0
 obtain⟨x2,l2,e2,_,h2⟩:=kW h1
 have e:=EY h2
 exact⟨⟨x0,x1,x2⟩,by subst e;subst e2;subst e1;subst e0;rfl⟩
section
variable {w0:bh}{L M:List ay}{K:KV}{F:World→Prop}{C:ay→List ay}{b:Nat}{x:kI}{v:Value}
abbrev tw (g:wq):eO:=⟨kt g.words 32 80,kt g.stripes 1 16,kt g.wide 1 4,0,g.start.tmod 1000,kt g.spins 0 4,kt g.writes 4 40,kt g.fuel 20 120⟩
theorem zD {g:wq}[i:ar v (wq.cells g)](hK:G w0 L (K (.agg (eO.cells (tw g)).toArray))):G w0 L (CP Tryz.prog Xv [v] K):=by
 refine zv ?_
 unfold qY
 refine G.box fun p=>?_
 refine G.new fun q=>?_
 have nz:iG (1000:Int):=⟨by decide⟩
 repeat' (first
  | exact hK.sub
  | (with_reducible refine⟨?_,?_⟩)
  | (with_reducible refine G.drew ?_)
  | (refine gA (by decide) (by decide) (by decide) (by decide) ?_)
  | (simp (maxSteps:=2000000) only [↓RG,RP,RB,BEq.rfl,Int.reduceEq,Int.reduceLT,Int.reduceLE,Nat.reduceEqDiff])
  | (refine G.new fun q2=>?_))
theorem Lc {q:xB}{a:Value}{k:Int}[i:ar v (xB.cells q)](h0:0≤k)(h1:k≤1000)(hK:G w0 L (K (i64 (kt q.n 0 k)))):G w0 L (CP Tryz.prog Xx [a,v,i64 k] K):=by
 refine LL ?_
 unfold E5
 refine G.box fun p=>?_
 refine gg ?_
 refine gA (by decide) h0 (by omega) (by omega) ?_
 exact hK.sub
theorem tF {n:Int}(hK:∀r,G w0 L (K (i64 r))):G w0 L (CP Tryz.prog ge [i64 n] K):=by
 refine LO ?_
 unfold EN
 refine gA (by decide) (by decide) (by decide) (by decide) ?_
 exact hK _
theorem ib {k:bu}[i:ar v (bu.cells k)](hk:jM k.n)(hK:∀o a b c n:Int,o≠23→jM n→G w0 L (K (.agg (bu.cells ⟨o,a,b,c,n⟩).toArray))):G w0 L (CP Tryz.prog L8 [v] K):=by
 refine Gn ?_
 unfold ze
 refine G.box fun p=>?_
 refine G.new fun q=>?_
 have nz:iG (20:Int):=⟨by decide⟩
 have hk2:jM (k.n.tmod 20):=by
  have h1:=Int.tmod_nonneg 20 hk.1
  have h2:=Int.tmod_lt_of_pos k.n (show (0:Int)<20 by decide)
  exact⟨h1,by omega⟩
 have nz2:iG (64:Int):=⟨by decide⟩
 have h4:∀n,IntKind.wrap .i64 (3+kt n 0 4)≠23:=fun n=>by
  have:=xN (n:=n) (show (0:Int)≤4 by decide)
  rw [iy (by omega) (by omega)];omega
 obtain⟨w1,w2⟩:=xN (n:=k.op) (show (0:Int)≤19 by decide)
 generalize hw:kt k.op 0 19=w at w1 w2
 have hs:w=0∨w=1∨w=2∨w=3∨w=4∨w=5∨w=6∨w=7∨w=8∨w=9∨w=10∨w=11∨w=12∨w=13∨w=14∨w=15∨w=16∨w=17∨w=18∨w=19:=by omega
 repeat' (first | (with_reducible refine G.joini0 ?_) | (with_reducible refine G.joini1 ?_) | (with_reducible refine G.drew ?_) | (simp (maxSteps:=2000000) only [↓RG,RP,RB,BEq.rfl,Int.reduceEq,Int.reduceLT,Int.reduceLE,Nat.reduceEqDiff]))
 refine tF fun r1=>?_
 refine gg ?_
 refine tF fun r2=>?_
 refine gg ?_
 refine tF fun r3=>?_
 refine gg ?_
 refine gA (by decide) (by decide) (by decide) (by decide) ?_
 refine gg ?_
 refine gA (by decide) (by decide) (by decide) (by decide) ?_
 rw [hw]
 clear hw w1 w2
 rcases hs with rfl | rfl | rfl | rfl | rfl | rfl | rfl | rfl | rfl | rfl | rfl | rfl | rfl | rfl | rfl | rfl | rfl | rfl | rfl | rfl
 all_goals
  repeat' (first
   | exact G.sub (hK _ _ _ _ _ (by decide) hk)
   | exact G.sub (hK _ _ _ _ _ (by decide) hk2)
   | exact G.sub (hK _ _ _ _ _ (by decide) kU)
   | exact G.sub (hK _ _ _ _ _ (h4 _) kU)
   | (refine gA (by decide) (by decide) (by decide) (by decide) ?_)
   | (with_reducible refine G.joini1 ?_)
   | (simp (maxSteps:=2000000) only [↓RG,RP,RB,BEq.rfl,Int.reduceEq,Int.reduceLT,Int.reduceLE,Nat.reduceEqDiff]))
def uz (k:bu):Prop:=k.op≠23∧jM k.n
def wt (os:List Int):Nat:=(os.map fun o=>if o=17 then 2 else 1).sum
theorem Nh {os:List Int}{o:Int}:wt (os++[o])=wt os+if o=17 then 2 else 1:=by unfold wt;simp
theorem S8 (os:List Int):os.length≤wt os:=by
 induction os with
 | nil=>simp
 | cons o os ih=>unfold wt at *;simp only [List.map_cons,List.sum_cons,List.length_cons];split <;> omega
theorem T9 (os:List Int):wt os≤2*os.length:=by
 induction os with
 | nil=>simp [wt]
 | cons o os ih=>unfold wt at *;simp only [List.map_cons,List.sum_cons,List.length_cons];split <;> omega
theorem C0 {xs:List bu}{os:List Int}{z:Int}{vl vo:Value}(h1:xs.length≤1000)(h2:os.length≤1000)
  (hK:∀(o:Int) os' u uo,o≠23→(os'=os∨(z=17∧os'=os++[18]))→ar u [u]→ar uo [uo]→G w0 (sl dt u (xs++[⟨o,0,0,0,0⟩])::sl bg uo os'::M) (K (.tuple #[u,uo]))) :
  G w0 (sl dt vl xs::sl bg vo (os++[z])::M) (CP Tryz.prog Vd [vl,vo] K):=by
 refine Jy ?_
 unfold Dr
 have hl:((os++[z]).length:Int)=os.length+1:=by simp
 have e1:IntKind.wrap .i64 ((os.length:Int)+1-1)=os.length:=by rw [iy (by omega) (by omega)];omega
 have e:eU (os++[z]) os.length z:=⟨by simp⟩
 have ht:(os++[z]).take os.length=os:=by simp
 have fin:∀(o:Int) (vo':Value) (os':List Int),o≠23→(os'=os∨(z=17∧os'=os++[18]))→ar vo' [vo']→G w0 (sl dt vl xs::sl bg vo' os'::M) (ak [(Value.int .i64 0),(Value.int .i64 0),(Value.int .i64 0),(Value.int .i64 0),(Value.int .u64 0)] 1 [(0,5,(.agg #[i64 o,i64 0,i64 0,i64 0,u64 0]))] (fun x8=>av 5 40 vl x8 (fun x9=>K (Value.tuple #[x9,vo'])))):=fun o vo' os' ho h3 hv=>by
  refine G.build dt [⟨o,0,0,0,0⟩] rfl (by decide) rfl fun y hy=>?_
  refine G.append (v:=vl) (ys:=[(⟨o,0,0,0,0⟩:bu)]) (by simp;omega) (by simp [maxLen];omega) fun u2 g2=>?_
  exact(hK o os' u2 vo' ho h3 g2 hv).sub
 refine gf (an hl e1) ?_
 by_cases c:z=14
 ·repeat' (first | (with_reducible refine G.joini0 ?_) | (with_reducible refine G.joini1 ?_) | (with_reducible refine G.drew ?_) | (simp (maxSteps:=2000000) only [↓RG,RP,RB,BEq.rfl,Int.reduceEq,Int.reduceLT,Int.reduceLE,Nat.reduceEqDiff,eq_true c]))
  refine G.take (by simp) fun u hu=>?_
  rw [ht]
  refine gu ?_
  exact fin 15 u os (by decide) (.inl rfl) hu
 ·by_cases c2:z=17
  ·refine gf (an c (eq_true c2)) ?_
   refine G.take (by simp) fun u hu=>?_
   rw [ht]
   refine G.nilsl bg ?_
   refine G.append (x:=u) (v:=.slice none 0 0) (xs:=[]) (by simp;omega) (by simp [maxLen];omega) fun u1 g1=>?_
   refine G.build bg [(18:Int)] rfl (by decide) rfl fun y3 g3=>?_
   refine G.append (v:=u1) (ys:=[(18:Int)]) (by simp;omega) (by simp [maxLen];omega) fun u2 g2=>?_
   repeat' (first | (with_reducible refine G.joini0 ?_) | (with_reducible refine G.joini1 ?_) | (with_reducible refine G.drew ?_) | (simp (maxSteps:=2000000) only [↓RG,RP,RB,BEq.rfl,Int.reduceEq,Int.reduceLT,Int.reduceLE,Nat.reduceEqDiff]))
   rw [List.nil_append]
   exact(fin 18 u2 (os++[18]) (by decide) (.inr ⟨c2,rfl⟩) g2).sub
  ·repeat' (first | (with_reducible refine G.joini0 ?_) | (with_reducible refine G.joini1 ?_) | (with_reducible refine G.drew ?_) | (simp (maxSteps:=2000000) only [↓RG,RP,RB,BEq.rfl,Int.reduceEq,Int.reduceLT,Int.reduceLE,Nat.reduceEqDiff,c,c2]))
   refine G.take (by simp) fun u hu=>?_
   rw [ht]
   refine gu ?_
   exact fin 19 u os (by decide) (.inl rfl) hu
structure U2 (xs:List bu)(os:List Int):Prop where
 ok:∀k∈xs,uz k
 few:xs.length+2*os.length≤14
set_option maxHeartbeats 1000000 in
theorem B5 {ps:List bu}[a:Av w0 v dt ps](hps:∀k∈ps,jM k.n){calm:Bool}(hK:∀(s:lD)(xs:List bu),xs.length≤1000→(∀k∈xs,uz k)→G w0 (sl dt s.v xs::L) (K (.agg #[s.v]))):G w0 L (CP Tryz.prog XB [v,i64 14,.bool calm] K):=by
 refine CS ?_
 unfold jN
 refine G.new fun rp=>?_
 refine G.join2 (σ:=List bu×List Int×Value×Value) (fun z=>z.2.2.1) (fun z=>z.2.2.2) (fun z=>sl dt z.2.2.1 z.1::sl bg z.2.2.2 z.2.1::own rp [.slice none 0 0]::L) (fun z=>(∀k∈z.1,uz k)∧z.1.length+wt z.2.1≤40∧ar z.2.2.1 [z.2.2.1]∧ar z.2.2.2 [z.2.2.2]) ?_ ?_
 ·rintro⟨xs,os,vl,vo⟩ ⟨h1,h2,h3,h4⟩
  simp only at h1 h2 h3 h4 ⊢
  refine G.loop2 (σ:=List bu×List Int×Value×Value) (fun z=>z.2.2.1) (fun z=>z.2.2.2) (fun z=>sl dt z.2.2.1 z.1::sl bg z.2.2.2 z.2.1::own rp [.slice none 0 0]::L) (fun z=>(∀k∈z.1,uz k)∧z.1.length+wt z.2.1≤40∧ar z.2.2.1 [z.2.2.1]∧ar z.2.2.2 [z.2.2.2]) (fun z=>wt z.2.1) (xs,os,vl,vo) rfl rfl rfl ⟨h1,h2,h3,h4⟩ ?_
  rintro⟨xs,os,vl,vo⟩ ⟨h1,h2,h3,h4⟩ J hJ
  simp only at h1 h2 h3 h4 hJ ⊢
  rcases List.eq_nil_or_concat os with rfl | ⟨os0,z,rfl⟩
  ·have hend:∀(xs:List bu) (vl:Value),(∀k∈xs,uz k)→xs.length≤1000→ar vl [vl]→G w0 (sl dt vl xs::sl bg vo []::own rp [.slice none 0 0]::L) (ap [(Value.slice none 0 0)] [(0,1,vl)] (fun x14=>ag 1 (ptr rp 0) x14 (fun _=>aj 1 (ptr rp 0) (fun x16=>K x16)))):=fun xs vl h1 h2 hv=>by
    refine G.isSl (v:=vl) fun s e=>?_
    subst e
    repeat' (first | (with_reducible refine G.joini0 ?_) | (with_reducible refine G.joini1 ?_) | (with_reducible refine G.drew ?_) | (simp (maxSteps:=2000000) only [↓RG,RP,RB,BEq.rfl,Int.reduceEq,Int.reduceLT,Int.reduceLE,Nat.reduceEqDiff]))
    exact(hK s xs h2 h1).sub
   by_cases c:xs.length=0
   ·have c1:(xs.length:Int)=0:=by omega
    have e0:xs=[]:=List.eq_nil_of_length_eq_zero c
    subst e0
    repeat' (first | (with_reducible refine G.joini0 ?_) | (with_reducible refine G.joini1 ?_) | (with_reducible refine G.drew ?_) | (simp (maxSteps:=2000000) only [↓RG,RP,RB,BEq.rfl,Int.reduceEq,Int.reduceLT,Int.reduceLE,Nat.reduceEqDiff,List.length_cons,List.length_nil,Nat.reduceAdd,Int.cast_ofNat_Int]))
    refine G.build dt [⟨1,0,0,0,1⟩] rfl (by decide) rfl fun y hy=>?_
    refine G.append (v:=vl) (ys:=[(⟨1,0,0,0,1⟩:bu)]) (by simp) (by simp [maxLen]) fun u2 g2=>?_
    rw [List.nil_append]
    exact(hend [⟨1,0,0,0,1⟩] u2 (fun k hk=>by rw [List.mem_singleton.1 hk];exact⟨by decide,⟨by decide,by decide⟩⟩) (by simp) g2).sub
   ·have c1:¬(xs.length:Int)=0:=by omega
    refine G.isSl (v:=vl) fun s e=>?_
    subst e
    repeat' (first | (with_reducible refine G.joini0 ?_) | (with_reducible refine G.joini1 ?_) | (with_reducible refine G.drew ?_) | (simp (maxSteps:=2000000) only [↓RG,RP,RB,BEq.rfl,Int.reduceEq,Int.reduceLT,Int.reduceLE,Nat.reduceEqDiff,List.length_cons,List.length_nil,Nat.reduceAdd,Int.cast_ofNat_Int,c1]))
    exact(hK s xs (by omega) h1).sub
  ·have hw:=Nh (os:=os0) (o:=z)
   have hw1:=S8 os0
   have hl:((os0++[z]).length:Int)=os0.length+1:=by simp
   have c0:(0:Int)<os0.length+1:=by omega
   have h5:xs.length+wt (os0++[z])≤40:=by simpa using h2
   have hJ2:=hJ
   simp only [List.concat_eq_append] at hJ ⊢
   repeat' (first | (with_reducible refine G.joini0 ?_) | (with_reducible refine G.joini1 ?_) | (with_reducible refine G.drew ?_) | (simp (maxSteps:=2000000) only [↓RG,RP,RB,BEq.rfl,Int.reduceEq,Int.reduceLT,Int.reduceLE,Nat.reduceEqDiff,hl,eq_true c0]))
   refine C0 (by omega) (by omega) fun o os' u uo ho hos g1 g2=>?_
   have hlt:wt os'<wt (os0++[z]):=by
    rcases hos with rfl | ⟨rfl,rfl⟩
    ·rw [hw];split <;> omega
    ·rw [hw,Nh];simp
   repeat' (first | (with_reducible refine G.joini0 ?_) | (with_reducible refine G.joini1 ?_) | (with_reducible refine G.drew ?_) | (simp (maxSteps:=2000000) only [↓RG,RP,RB,BEq.rfl,Int.reduceEq,Int.reduceLT,Int.reduceLE,Nat.reduceEqDiff]))
   exact(hJ (xs++[⟨o,0,0,0,0⟩],os',u,uo) ⟨fun k hk=>by
    rcases List.mem_append.1 hk with g | g
    ·exact h1 k g
    ·rw [List.mem_singleton.1 g];exact⟨ho,kU⟩,by simp only [List.length_append,List.length_singleton];omega,g1,g2⟩ hlt).sub
 ·intro J hJ
  refine G.nilsl dt ?_
  refine G.nilsl bg ?_
  refine G.loop3 (σ:=List bu×List Int×Value×Value×Nat) (fun z=>z.2.2.1) (fun z=>z.2.2.2.1) (fun z=>i64 z.2.2.2.2) (fun z=>sl bg z.2.2.2.1 z.2.1::sl dt z.2.2.1 z.1::own rp [.slice none 0 0]::L) (fun z=>U2 z.1 z.2.1∧(z.2.2.2.2≤ps.length∧z.2.2.2.2≤z.1.length)∧ar z.2.2.1 [z.2.2.1]∧ar z.2.2.2.1 [z.2.2.2.1]) (fun z=>ps.length-z.2.2.2.2) ([],[],.slice none 0 0,.slice none 0 0,0) rfl rfl rfl rfl ⟨⟨by simp,by simp⟩,⟨Nat.zero_le _,Nat.zero_le _⟩,be,be⟩ ?_
  rintro⟨xs,os,vl,vo,i⟩ ⟨hI,⟨h2,h2'⟩,h3,h4⟩ J2 hJ2
  simp only at hI h2 h2' h3 h4 hJ2 ⊢
  have hfew:=hI.few
  have hleave:G w0 (sl bg vo os::sl dt vl xs::own rp [.slice none 0 0]::L) (J vl vo):=(hJ (xs,os,vl,vo) ⟨hI.ok,by have:=T9 os;have:=hI.few;simp only;omega,h3,h4⟩).sub
  by_cases c:i<ps.length
  ·have c1:(i:Int)<ps.length:=by omega
   have e:eU ps i ps[i]:=⟨List.getElem?_eq_getElem c⟩
   have hnext:∀(ys:List bu) (os':List Int) (ul uo:Value),U2 ys os'→xs.length<ys.length→ar ul [ul]→ar uo [uo]→G w0 (sl bg uo os'::sl dt ul ys::own rp [.slice none 0 0]::L) (J2 ul uo (i64 (IntKind.wrap .i64 ((i:Int)+1)))):=fun ys os' ul uo g1 g0 g2 g3=>by
    rw [di (by omega)]
    exact hJ2 (ys,os',ul,uo,i+1) ⟨g1,⟨c,by simp only;omega⟩,g2,g3⟩ (by simp only;omega)
   have e1:IntKind.wrap .i64 (2*(os.length:Int))=2*os.length:=iy (by omega) (by omega)
   have e2:IntKind.wrap .i64 ((xs.length:Int)+2*os.length)=xs.length+2*os.length:=iy (by omega) (by omega)
   have e3:IntKind.wrap .i64 ((xs.length:Int)+2*os.length+5)=xs.length+2*os.length+5:=iy (by omega) (by omega)
   refine gu ?_
   repeat' (first | (with_reducible refine G.joini0 ?_) | (with_reducible refine G.joini1 ?_) | (with_reducible refine G.drew ?_) | (simp (maxSteps:=2000000) only [↓RG,RP,RB,BEq.rfl,Int.reduceEq,Int.reduceLT,Int.reduceLE,Nat.reduceEqDiff,eq_true c1]))
   refine G.new fun kp=>?_
   by_cases c2:(14:Int)<xs.length+2*os.length+5
   ·repeat' (first | (with_reducible refine G.joini0 ?_) | (with_reducible refine G.joini1 ?_) | (with_reducible refine G.drew ?_) | (simp (maxSteps:=2000000) only [↓RG,RP,RB,BEq.rfl,Int.reduceEq,Int.reduceLT,Int.reduceLE,Nat.reduceEqDiff,e1,e2,e3,eq_true c2]))
    exact hleave.sub
   ·repeat' (first | (with_reducible refine G.joini0 ?_) | (with_reducible refine G.joini1 ?_) | (with_reducible refine G.drew ?_) | (simp (maxSteps:=2000000) only [↓RG,RP,RB,BEq.rfl,Int.reduceEq,Int.reduceLT,Int.reduceLE,Nat.reduceEqDiff,e1,e2,e3,c2]))
    refine gA (by decide) (by decide) (by decide) (by decide) ?_
    generalize kt ps[i].op 0 40=w
    have hqn:=hps _ (List.getElem_mem c)
    generalize hq:ps[i]=q at hqn ⊢
    have hadd:∀(ys:List bu),(∀k∈ys,uz k)→0<ys.length→ys.length≤2→∀u,ar u [u]→G w0 (own kp (bu.cells q)::sl bg vo os::sl dt u (xs++ys)::own rp [.slice none 0 0]::L) (J2 u vo (i64 (IntKind.wrap .i64 ((i:Int)+1)))):=fun ys hy g1 g2 u hu =>
     (hnext (xs++ys) os u vo ⟨fun k hk=>(List.mem_append.1 hk).elim (hI.ok k) (hy k),by simp only [List.length_append];omega⟩ (by simp only [List.length_append];omega) hu h4).sub
    have hput1:∀o a b c n:Int,o≠23→jM n→G w0 (own kp (bu.cells q)::sl bg vo os::sl dt vl xs::own rp [.slice none 0 0]::L) (ak [(Value.int .i64 0),(Value.int .i64 0),(Value.int .i64 0),(Value.int .i64 0),(Value.int .u64 0)] 1 [(0,5,.agg #[i64 o,i64 a,i64 b,i64 c,u64 n])] fun y=>av 5 40 vl y fun u=>J2 u vo (i64 (IntKind.wrap .i64 ((i:Int)+1)))):=fun o a b c n ho hn=>by
     refine G.build dt [⟨o,a,b,c,n⟩] rfl (by decide) rfl fun y hy=>?_
     refine G.append (v:=vl) (ys:=[(⟨o,a,b,c,n⟩:bu)]) (by simp;omega) (by simp [maxLen];omega) fun u2 g2=>?_
     exact(hadd [⟨o,a,b,c,n⟩] (fun k hk=>by rw [List.mem_singleton.1 hk];exact⟨ho,hn⟩) (by simp) (by simp) u2 g2).sub
    have hput2:∀o a b c n o' a' b' c' n':Int,o≠23→jM n→o'≠23→jM n'→G w0 (own kp (bu.cells q)::sl bg vo os::sl dt vl xs::own rp [.slice none 0 0]::L) (ak [(Value.int .i64 0),(Value.int .i64 0),(Value.int .i64 0),(Value.int .i64 0),(Value.int .u64 0)] 2 [(0,5,.agg #[i64 o,i64 a,i64 b,i64 c,u64 n]),(5,5,.agg #[i64 o',i64 a',i64 b',i64 c',u64 n'])] fun y=>av 5 40 vl y fun u=>J2 u vo (i64 (IntKind.wrap .i64 ((i:Int)+1)))):=fun o a b c n o' a' b' c' n' ho hn ho' hn'=>by
     refine G.build dt [⟨o,a,b,c,n⟩,⟨o',a',b',c',n'⟩] rfl (by decide) rfl fun y hy=>?_
     refine G.append (v:=vl) (ys:=[(⟨o,a,b,c,n⟩:bu),⟨o',a',b',c',n'⟩]) (by simp;omega) (by simp [maxLen];omega) fun u2 g2=>?_
     exact(hadd [⟨o,a,b,c,n⟩,⟨o',a',b',c',n'⟩] (by simpa using (⟨⟨ho,hn⟩,⟨ho',hn'⟩⟩:uz ⟨o,a,b,c,n⟩∧uz ⟨o',a',b',c',n'⟩)) (by simp) (by simp) u2 g2).sub
    have hopen:∀o:Int,o≠23→G w0 (own kp (bu.cells q)::sl bg vo os::sl dt vl xs::own rp [.slice none 0 0]::L) (ak [(Value.int .i64 0),(Value.int .i64 0),(Value.int .i64 0),(Value.int .i64 0),(Value.int .u64 0)] 1 [(0,5,.agg #[i64 o,i64 0,i64 0,i64 0,u64 0])] fun y=>av 5 40 vl y fun u=>ak [i64 0] 1 [(0,1,i64 o)] fun y2=>av 1 8 vo y2 fun u2=>J2 u u2 (i64 (IntKind.wrap .i64 ((i:Int)+1)))):=fun o ho=>by
     refine G.build dt [⟨o,0,0,0,0⟩] rfl (by decide) rfl fun y hy=>?_
     refine G.append (v:=vl) (ys:=[(⟨o,0,0,0,0⟩:bu)]) (by simp;omega) (by simp [maxLen];omega) fun u2 g2=>?_
     refine G.build bg [o] rfl (by decide) rfl fun y3 hy3=>?_
     refine G.append (v:=vo) (ys:=[o]) (by simp;omega) (by simp [maxLen];omega) fun u3 g3=>?_
     exact(hnext (xs++[⟨o,0,0,0,0⟩]) (os++[o]) u2 u3 ⟨fun k hk=>(List.mem_append.1 hk).elim (hI.ok k) (fun g=>by rw [List.mem_singleton.1 g];exact⟨ho,kU⟩),by simp only [List.length_append,List.length_singleton];omega⟩ (by simp) g2 g3).sub
    have hshut:0<os.length→G w0 (own kp (bu.cells q)::sl bg vo os::sl dt vl xs::own rp [.slice none 0 0]::L) (CP Tryz.prog Vd [vl,vo] fun x73=>ao 0 x73 fun x74=>ao 1 x73 fun x75=>J2 x74 x75 (i64 (IntKind.wrap .i64 ((i:Int)+1)))):=fun h0=>by
     obtain⟨os0,z,rfl⟩:∃os0 z,os=os0++[z]:=by
      rcases List.eq_nil_or_concat os with g | ⟨a,b,g⟩
      ·rw [g] at h0;cases h0
      ·exact⟨a,b,by rw [g,List.concat_eq_append]⟩
     have hl:(os0++[z]).length=os0.length+1:=by simp
     refine G.pickAll (As:=[sl dt vl xs,sl bg vo (os0++[z])]) ?_
     simp only [List.cons_append,List.nil_append]
     refine C0 (by omega) (by omega) fun o os' u uo ho hos g1 g2=>?_
     repeat' (first | (with_reducible refine G.joini0 ?_) | (with_reducible refine G.joini1 ?_) | (with_reducible refine G.drew ?_) | (simp (maxSteps:=2000000) only [↓RG,RP,RB,BEq.rfl,Int.reduceEq,Int.reduceLT,Int.reduceLE,Nat.reduceEqDiff]))
     refine(hnext (xs++[⟨o,0,0,0,0⟩]) os' u uo ⟨fun k hk=>(List.mem_append.1 hk).elim (hI.ok k) (fun g=>by rw [List.mem_singleton.1 g];exact⟨ho,kU⟩),?_⟩ (by simp) g1 g2).sub
     have hl2:(xs++[(⟨o,0,0,0,0⟩:bu)]).length=xs.length+1:=by simp
     rcases hos with rfl | ⟨_,rfl⟩
     ·omega
     ·have:(os0++[(18:Int)]).length=os0.length+1:=by simp
      omega
    have hr:∀{L:List ay} {K:KV} {n:Int},(∀r,G w0 L (K (i64 r)))→G w0 L (CP Tryz.prog ge [i64 n] K):=tF
    rcases List.eq_nil_or_concat os with rfl | ⟨os0,z,rfl⟩
    ·have c0:¬(0:Int)<(([]:List Int).length:Int):=by simp
     repeat' (first | (with_reducible refine G.joini0 ?_) | (with_reducible refine G.joini1 ?_) | (with_reducible refine G.drew ?_) | (simp (maxSteps:=2000000) only [↓RG,RP,RB,BEq.rfl,Int.reduceEq,Int.reduceLT,Int.reduceLE,Nat.reduceEqDiff,c0]))
     refine G.joini2 ?_
     repeat' (first | (with_reducible refine G.joini0 ?_) | (with_reducible refine G.joini1 ?_) | (with_reducible refine G.drew ?_) | (simp (maxSteps:=2000000) only [↓RG,RP,RB,BEq.rfl,Int.reduceEq,Int.reduceLT,Int.reduceLE,Nat.reduceEqDiff,c0]))
     refine G.cond (fun _=>?_) (fun _=>?_)
     ·repeat' (first | (with_reducible refine G.joini0 ?_) | (with_reducible refine G.joini1 ?_) | (with_reducible refine G.drew ?_) | (simp (maxSteps:=2000000) only [↓RG,RP,RB,BEq.rfl,Int.reduceEq,Int.reduceLT,Int.reduceLE,Nat.reduceEqDiff]))
      exact(hopen _ (by decide)).sub
     repeat' (first | (with_reducible refine G.joini0 ?_) | (with_reducible refine G.joini1 ?_) | (with_reducible refine G.drew ?_) | (simp (maxSteps:=2000000) only [↓RG,RP,RB,BEq.rfl,Int.reduceEq,Int.reduceLT,Int.reduceLE,Nat.reduceEqDiff,c0]))
     refine G.joini2 ?_
     repeat' (first | (with_reducible refine G.joini0 ?_) | (with_reducible refine G.joini1 ?_) | (with_reducible refine G.drew ?_) | (simp (maxSteps:=2000000) only [↓RG,RP,RB,BEq.rfl,Int.reduceEq,Int.reduceLT,Int.reduceLE,Nat.reduceEqDiff,c0]))
     refine G.cond (fun _=>?_) (fun _=>?_)
     ·repeat' (first | (with_reducible refine G.joini0 ?_) | (with_reducible refine G.joini1 ?_) | (with_reducible refine G.drew ?_) | (simp (maxSteps:=2000000) only [↓RG,RP,RB,BEq.rfl,Int.reduceEq,Int.reduceLT,Int.reduceLE,Nat.reduceEqDiff]))
      exact(hopen _ (by decide)).sub
     repeat' (first | (with_reducible refine G.joini0 ?_) | (with_reducible refine G.joini1 ?_) | (with_reducible refine G.drew ?_) | (simp (maxSteps:=2000000) only [↓RG,RP,RB,BEq.rfl,Int.reduceEq,Int.reduceLT,Int.reduceLE,Nat.reduceEqDiff,c0]))
     refine G.joini2 ?_
     repeat' (first | (with_reducible refine G.joini0 ?_) | (with_reducible refine G.joini1 ?_) | (with_reducible refine G.drew ?_) | (simp (maxSteps:=2000000) only [↓RG,RP,RB,BEq.rfl,Int.reduceEq,Int.reduceLT,Int.reduceLE,Nat.reduceEqDiff,c0]))
     refine G.cond (fun _=>?_) (fun _=>?_)
     ·repeat' (first | (with_reducible refine G.joini0 ?_) | (with_reducible refine G.joini1 ?_) | (with_reducible refine G.drew ?_) | (simp (maxSteps:=2000000) only [↓RG,RP,RB,BEq.rfl,Int.reduceEq,Int.reduceLT,Int.reduceLE,Nat.reduceEqDiff]))
      refine hr fun r=>?_
      repeat' (first | (with_reducible refine G.joini0 ?_) | (with_reducible refine G.joini1 ?_) | (with_reducible refine G.drew ?_) | (simp (maxSteps:=2000000) only [↓RG,RP,RB,BEq.rfl,Int.reduceEq,Int.reduceLT,Int.reduceLE,Nat.reduceEqDiff]))
      exact(hput2 _ _ _ _ _ _ _ _ _ _ (by decide) kU (by decide) kU).sub
     repeat' (first | (with_reducible refine G.joini0 ?_) | (with_reducible refine G.joini1 ?_) | (with_reducible refine G.drew ?_) | (simp (maxSteps:=2000000) only [↓RG,RP,RB,BEq.rfl,Int.reduceEq,Int.reduceLT,Int.reduceLE,Nat.reduceEqDiff,c0]))
     refine G.cond (fun _=>?_) (fun _=>?_)
     ·repeat' (first | (with_reducible refine G.joini0 ?_) | (with_reducible refine G.joini1 ?_) | (with_reducible refine G.drew ?_) | (simp (maxSteps:=2000000) only [↓RG,RP,RB,BEq.rfl,Int.reduceEq,Int.reduceLT,Int.reduceLE,Nat.reduceEqDiff]))
      refine hr fun r=>?_
      repeat' (first | (with_reducible refine G.joini0 ?_) | (with_reducible refine G.joini1 ?_) | (with_reducible refine G.drew ?_) | (simp (maxSteps:=2000000) only [↓RG,RP,RB,BEq.rfl,Int.reduceEq,Int.reduceLT,Int.reduceLE,Nat.reduceEqDiff]))
      exact(hput2 _ _ _ _ _ _ _ _ _ _ (by decide) kU (by decide) kU).sub
     repeat' (first | (with_reducible refine G.joini0 ?_) | (with_reducible refine G.joini1 ?_) | (with_reducible refine G.drew ?_) | (simp (maxSteps:=2000000) only [↓RG,RP,RB,BEq.rfl,Int.reduceEq,Int.reduceLT,Int.reduceLE,Nat.reduceEqDiff,c0]))
     refine G.cond (fun _=>?_) (fun _=>?_)
     ·repeat' (first | (with_reducible refine G.joini0 ?_) | (with_reducible refine G.joini1 ?_) | (with_reducible refine G.drew ?_) | (simp (maxSteps:=2000000) only [↓RG,RP,RB,BEq.rfl,Int.reduceEq,Int.reduceLT,Int.reduceLE,Nat.reduceEqDiff]))
      refine hr fun r=>?_
      repeat' (first | (with_reducible refine G.joini0 ?_) | (with_reducible refine G.joini1 ?_) | (with_reducible refine G.drew ?_) | (simp (maxSteps:=2000000) only [↓RG,RP,RB,BEq.rfl,Int.reduceEq,Int.reduceLT,Int.reduceLE,Nat.reduceEqDiff]))
      refine ib (k:=q) hqn fun o a b c n ho hn=>?_
      repeat' (first | (with_reducible refine G.joini0 ?_) | (with_reducible refine G.joini1 ?_) | (with_reducible refine G.drew ?_) | (simp (maxSteps:=2000000) only [↓RG,RP,RB,BEq.rfl,Int.reduceEq,Int.reduceLT,Int.reduceLE,Nat.reduceEqDiff]))
      exact(hput2 _ _ _ _ _ _ _ _ _ _ (by decide) kU ho hn).sub
     repeat' (first | (with_reducible refine G.joini0 ?_) | (with_reducible refine G.joini1 ?_) | (with_reducible refine G.drew ?_) | (simp (maxSteps:=2000000) only [↓RG,RP,RB,BEq.rfl,Int.reduceEq,Int.reduceLT,Int.reduceLE,Nat.reduceEqDiff,c0]))
     refine G.cond (fun _=>?_) (fun _=>?_)
     ·repeat' (first | (with_reducible refine G.joini0 ?_) | (with_reducible refine G.joini1 ?_) | (with_reducible refine G.drew ?_) | (simp (maxSteps:=2000000) only [↓RG,RP,RB,BEq.rfl,Int.reduceEq,Int.reduceLT,Int.reduceLE,Nat.reduceEqDiff]))
      refine ib (k:=q) hqn fun o a b c n ho hn=>?_
      repeat' (first | (with_reducible refine G.joini0 ?_) | (with_reducible refine G.joini1 ?_) | (with_reducible refine G.drew ?_) | (simp (maxSteps:=2000000) only [↓RG,RP,RB,BEq.rfl,Int.reduceEq,Int.reduceLT,Int.reduceLE,Nat.reduceEqDiff]))
      refine hr fun r=>?_
      repeat' (first | (with_reducible refine G.joini0 ?_) | (with_reducible refine G.joini1 ?_) | (with_reducible refine G.drew ?_) | (simp (maxSteps:=2000000) only [↓RG,RP,RB,BEq.rfl,Int.reduceEq,Int.reduceLT,Int.reduceLE,Nat.reduceEqDiff]))
      exact(hput2 _ _ _ _ _ _ _ _ _ _ ho hn (by decide) kU).sub
     repeat' (first | (with_reducible refine G.joini0 ?_) | (with_reducible refine G.joini1 ?_) | (with_reducible refine G.drew ?_) | (simp (maxSteps:=2000000) only [↓RG,RP,RB,BEq.rfl,Int.reduceEq,Int.reduceLT,Int.reduceLE,Nat.reduceEqDiff,c0]))
     refine ib (k:=q) hqn fun o a b c n ho hn=>?_
     repeat' (first | (with_reducible refine G.joini0 ?_) | (with_reducible refine G.joini1 ?_) | (with_reducible refine G.drew ?_) | (simp (maxSteps:=2000000) only [↓RG,RP,RB,BEq.rfl,Int.reduceEq,Int.reduceLT,Int.reduceLE,Nat.reduceEqDiff]))
     exact(hput1 _ _ _ _ _ ho hn).sub
    ·have e5:eU (os0++[z]) os0.length z:=⟨by simp⟩
     have hl:(((os0++[z]).length:Nat):Int)=os0.length+1:=by simp
     have hl3:(os0++[z]).length=os0.length+1:=by simp
     rw [List.concat_eq_append] at *
     have hl2:IntKind.wrap .i64 ((os0.length:Int)+1-1)=os0.length:=by rw [iy (by omega) (by omega)];omega
     have c0:(0:Int)<(os0.length:Int)+1:=by omega
     repeat' (first | (with_reducible refine G.joini0 ?_) | (with_reducible refine G.joini1 ?_) | (with_reducible refine G.drew ?_) | (simp (maxSteps:=2000000) only [↓RG,RP,RB,BEq.rfl,Int.reduceEq,Int.reduceLT,Int.reduceLE,Nat.reduceEqDiff,hl,hl2,eq_true c0]))
     refine G.joini2 ?_
     repeat' (first | (with_reducible refine G.joini0 ?_) | (with_reducible refine G.joini1 ?_) | (with_reducible refine G.drew ?_) | (simp (maxSteps:=2000000) only [↓RG,RP,RB,BEq.rfl,Int.reduceEq,Int.reduceLT,Int.reduceLE,Nat.reduceEqDiff,hl,hl2,eq_true c0]))
     refine G.cond (fun _=>?_) (fun _=>?_)
     ·repeat' (first | (with_reducible refine G.joini0 ?_) | (with_reducible refine G.joini1 ?_) | (with_reducible refine G.drew ?_) | (simp (maxSteps:=2000000) only [↓RG,RP,RB,BEq.rfl,Int.reduceEq,Int.reduceLT,Int.reduceLE,Nat.reduceEqDiff]))
      exact(hopen _ (by decide)).sub
     repeat' (first | (with_reducible refine G.joini0 ?_) | (with_reducible refine G.joini1 ?_) | (with_reducible refine G.drew ?_) | (simp (maxSteps:=2000000) only [↓RG,RP,RB,BEq.rfl,Int.reduceEq,Int.reduceLT,Int.reduceLE,Nat.reduceEqDiff,hl,hl2,eq_true c0]))
     refine G.joini2 ?_
     repeat' (first | (with_reducible refine G.joini0 ?_) | (with_reducible refine G.joini1 ?_) | (with_reducible refine G.drew ?_) | (simp (maxSteps:=2000000) only [↓RG,RP,RB,BEq.rfl,Int.reduceEq,Int.reduceLT,Int.reduceLE,Nat.reduceEqDiff,hl,hl2,eq_true c0]))
     refine G.cond (fun _=>?_) (fun _=>?_)
     ·repeat' (first | (with_reducible refine G.joini0 ?_) | (with_reducible refine G.joini1 ?_) | (with_reducible refine G.drew ?_) | (simp (maxSteps:=2000000) only [↓RG,RP,RB,BEq.rfl,Int.reduceEq,Int.reduceLT,Int.reduceLE,Nat.reduceEqDiff]))
      exact(hopen _ (by decide)).sub
     repeat' (first | (with_reducible refine G.joini0 ?_) | (with_reducible refine G.joini1 ?_) | (with_reducible refine G.drew ?_) | (simp (maxSteps:=2000000) only [↓RG,RP,RB,BEq.rfl,Int.reduceEq,Int.reduceLT,Int.reduceLE,Nat.reduceEqDiff,hl,hl2,eq_true c0]))
     refine G.joini2 ?_
     repeat' (first | (with_reducible refine G.joini0 ?_) | (with_reducible refine G.joini1 ?_) | (with_reducible refine G.drew ?_) | (simp (maxSteps:=2000000) only [↓RG,RP,RB,BEq.rfl,Int.reduceEq,Int.reduceLT,Int.reduceLE,Nat.reduceEqDiff,hl,hl2,eq_true c0]))
     refine G.cond (fun _=>?_) (fun _=>?_)
     ·repeat' (first | (with_reducible refine G.joini0 ?_) | (with_reducible refine G.joini1 ?_) | (with_reducible refine G.drew ?_) | (simp (maxSteps:=2000000) only [↓RG,RP,RB,BEq.rfl,Int.reduceEq,Int.reduceLT,Int.reduceLE,Nat.reduceEqDiff]))
      exact(hshut (by simp)).sub
     repeat' (first | (with_reducible refine G.joini0 ?_) | (with_reducible refine G.joini1 ?_) | (with_reducible refine G.drew ?_) | (simp (maxSteps:=2000000) only [↓RG,RP,RB,BEq.rfl,Int.reduceEq,Int.reduceLT,Int.reduceLE,Nat.reduceEqDiff,hl,hl2,eq_true c0]))
     by_cases c25:w=25
     ·subst c25
      repeat' (first | (with_reducible refine G.joini0 ?_) | (with_reducible refine G.joini1 ?_) | (with_reducible refine G.drew ?_) | (simp (maxSteps:=2000000) only [↓RG,RP,RB,BEq.rfl,Int.reduceEq,Int.reduceLT,Int.reduceLE,Nat.reduceEqDiff,hl,hl2,eq_true c0]))
      refine G.cond (fun _=>?_) (fun _=>?_)
      ·repeat' (first | (with_reducible refine G.joini0 ?_) | (with_reducible refine G.joini1 ?_) | (with_reducible refine G.drew ?_) | (simp (maxSteps:=2000000) only [↓RG,RP,RB,BEq.rfl,Int.reduceEq,Int.reduceLT,Int.reduceLE,Nat.reduceEqDiff]))
       exact(hput1 _ _ _ _ _ (by decide) kU).sub
      ·repeat' (first | (with_reducible refine G.joini0 ?_) | (with_reducible refine G.joini1 ?_) | (with_reducible refine G.drew ?_) | (simp (maxSteps:=2000000) only [↓RG,RP,RB,BEq.rfl,Int.reduceEq,Int.reduceLT,Int.reduceLE,Nat.reduceEqDiff]))
       refine ib (k:=q) hqn fun o a b c n ho hn=>?_
       repeat' (first | (with_reducible refine G.joini0 ?_) | (with_reducible refine G.joini1 ?_) | (with_reducible refine G.drew ?_) | (simp (maxSteps:=2000000) only [↓RG,RP,RB,BEq.rfl,Int.reduceEq,Int.reduceLT,Int.reduceLE,Nat.reduceEqDiff]))
       exact(hput1 _ _ _ _ _ ho hn).sub
     repeat' (first | (with_reducible refine G.joini0 ?_) | (with_reducible refine G.joini1 ?_) | (with_reducible refine G.drew ?_) | (simp (maxSteps:=2000000) only [↓RG,RP,RB,BEq.rfl,Int.reduceEq,Int.reduceLT,Int.reduceLE,Nat.reduceEqDiff,hl,hl2,eq_true c0,c25]))
     repeat' (first | (with_reducible refine G.joini0 ?_) | (with_reducible refine G.joini1 ?_) | (with_reducible refine G.drew ?_) | (simp (maxSteps:=2000000) only [↓RG,RP,RB,BEq.rfl,Int.reduceEq,Int.reduceLT,Int.reduceLE,Nat.reduceEqDiff,hl,hl2,eq_true c0]))
     refine G.cond (fun _=>?_) (fun _=>?_)
     ·repeat' (first | (with_reducible refine G.joini0 ?_) | (with_reducible refine G.joini1 ?_) | (with_reducible refine G.drew ?_) | (simp (maxSteps:=2000000) only [↓RG,RP,RB,BEq.rfl,Int.reduceEq,Int.reduceLT,Int.reduceLE,Nat.reduceEqDiff]))
      refine hr fun r=>?_
      repeat' (first | (with_reducible refine G.joini0 ?_) | (with_reducible refine G.joini1 ?_) | (with_reducible refine G.drew ?_) | (simp (maxSteps:=2000000) only [↓RG,RP,RB,BEq.rfl,Int.reduceEq,Int.reduceLT,Int.reduceLE,Nat.reduceEqDiff]))
      exact(hput2 _ _ _ _ _ _ _ _ _ _ (by decide) kU (by decide) kU).sub
     repeat' (first | (with_reducible refine G.joini0 ?_) | (with_reducible refine G.joini1 ?_) | (with_reducible refine G.drew ?_) | (simp (maxSteps:=2000000) only [↓RG,RP,RB,BEq.rfl,Int.reduceEq,Int.reduceLT,Int.reduceLE,Nat.reduceEqDiff,hl,hl2,eq_true c0]))
     refine G.cond (fun _=>?_) (fun _=>?_)
     ·repeat' (first | (with_reducible refine G.joini0 ?_) | (with_reducible refine G.joini1 ?_) | (with_reducible refine G.drew ?_) | (simp (maxSteps:=2000000) only [↓RG,RP,RB,BEq.rfl,Int.reduceEq,Int.reduceLT,Int.reduceLE,Nat.reduceEqDiff]))
      refine hr fun r=>?_
      repeat' (first | (with_reducible refine G.joini0 ?_) | (with_reducible refine G.joini1 ?_) | (with_reducible refine G.drew ?_) | (simp (maxSteps:=2000000) only [↓RG,RP,RB,BEq.rfl,Int.reduceEq,Int.reduceLT,Int.reduceLE,Nat.reduceEqDiff]))
      exact(hput2 _ _ _ _ _ _ _ _ _ _ (by decide) kU (by decide) kU).sub
     repeat' (first | (with_reducible refine G.joini0 ?_) | (with_reducible refine G.joini1 ?_) | (with_reducible refine G.drew ?_) | (simp (maxSteps:=2000000) only [↓RG,RP,RB,BEq.rfl,Int.reduceEq,Int.reduceLT,Int.reduceLE,Nat.reduceEqDiff,hl,hl2,eq_true c0]))
     refine G.cond (fun _=>?_) (fun _=>?_)
     ·repeat' (first | (with_reducible refine G.joini0 ?_) | (with_reducible refine G.joini1 ?_) | (with_reducible refine G.drew ?_) | (simp (maxSteps:=2000000) only [↓RG,RP,RB,BEq.rfl,Int.reduceEq,Int.reduceLT,Int.reduceLE,Nat.reduceEqDiff]))
      refine hr fun r=>?_
      repeat' (first | (with_reducible refine G.joini0 ?_) | (with_reducible refine G.joini1 ?_) | (with_reducible refine G.drew ?_) | (simp (maxSteps:=2000000) only [↓RG,RP,RB,BEq.rfl,Int.reduceEq,Int.reduceLT,Int.reduceLE,Nat.reduceEqDiff]))
      exact(hput2 _ _ _ _ _ _ _ _ _ _ (by decide) kU (by decide) kU).sub
     repeat' (first | (with_reducible refine G.joini0 ?_) | (with_reducible refine G.joini1 ?_) | (with_reducible refine G.drew ?_) | (simp (maxSteps:=2000000) only [↓RG,RP,RB,BEq.rfl,Int.reduceEq,Int.reduceLT,Int.reduceLE,Nat.reduceEqDiff,hl,hl2,eq_true c0]))
     refine G.cond (fun _=>?_) (fun _=>?_)
     ·repeat' (first | (with_reducible refine G.joini0 ?_) | (with_reducible refine G.joini1 ?_) | (with_reducible refine G.drew ?_) | (simp (maxSteps:=2000000) only [↓RG,RP,RB,BEq.rfl,Int.reduceEq,Int.reduceLT,Int.reduceLE,Nat.reduceEqDiff]))
      refine hr fun r=>?_
      repeat' (first | (with_reducible refine G.joini0 ?_) | (with_reducible refine G.joini1 ?_) | (with_reducible refine G.drew ?_) | (simp (maxSteps:=2000000) only [↓RG,RP,RB,BEq.rfl,Int.reduceEq,Int.reduceLT,Int.reduceLE,Nat.reduceEqDiff]))
      refine ib (k:=q) hqn fun o a b c n ho hn=>?_
      repeat' (first | (with_reducible refine G.joini0 ?_) | (with_reducible refine G.joini1 ?_) | (with_reducible refine G.drew ?_) | (simp (maxSteps:=2000000) only [↓RG,RP,RB,BEq.rfl,Int.reduceEq,Int.reduceLT,Int.reduceLE,Nat.reduceEqDiff]))
      exact(hput2 _ _ _ _ _ _ _ _ _ _ (by decide) kU ho hn).sub
     repeat' (first | (with_reducible refine G.joini0 ?_) | (with_reducible refine G.joini1 ?_) | (with_reducible refine G.drew ?_) | (simp (maxSteps:=2000000) only [↓RG,RP,RB,BEq.rfl,Int.reduceEq,Int.reduceLT,Int.reduceLE,Nat.reduceEqDiff,hl,hl2,eq_true c0]))
     refine G.cond (fun _=>?_) (fun _=>?_)
     ·repeat' (first | (with_reducible refine G.joini0 ?_) | (with_reducible refine G.joini1 ?_) | (with_reducible refine G.drew ?_) | (simp (maxSteps:=2000000) only [↓RG,RP,RB,BEq.rfl,Int.reduceEq,Int.reduceLT,Int.reduceLE,Nat.reduceEqDiff]))
      refine ib (k:=q) hqn fun o a b c n ho hn=>?_
      repeat' (first | (with_reducible refine G.joini0 ?_) | (with_reducible refine G.joini1 ?_) | (with_reducible refine G.drew ?_) | (simp (maxSteps:=2000000) only [↓RG,RP,RB,BEq.rfl,Int.reduceEq,Int.reduceLT,Int.reduceLE,Nat.reduceEqDiff]))
      refine hr fun r=>?_
      repeat' (first | (with_reducible refine G.joini0 ?_) | (with_reducible refine G.joini1 ?_) | (with_reducible refine G.drew ?_) | (simp (maxSteps:=2000000) only [↓RG,RP,RB,BEq.rfl,Int.reduceEq,Int.reduceLT,Int.reduceLE,Nat.reduceEqDiff]))
      exact(hput2 _ _ _ _ _ _ _ _ _ _ ho hn (by decide) kU).sub
     repeat' (first | (with_reducible refine G.joini0 ?_) | (with_reducible refine G.joini1 ?_) | (with_reducible refine G.drew ?_) | (simp (maxSteps:=2000000) only [↓RG,RP,RB,BEq.rfl,Int.reduceEq,Int.reduceLT,Int.reduceLE,Nat.reduceEqDiff,hl,hl2,eq_true c0]))
     refine ib (k:=q) hqn fun o a b c n ho hn=>?_
     repeat' (first | (with_reducible refine G.joini0 ?_) | (with_reducible refine G.joini1 ?_) | (with_reducible refine G.drew ?_) | (simp (maxSteps:=2000000) only [↓RG,RP,RB,BEq.rfl,Int.reduceEq,Int.reduceLT,Int.reduceLE,Nat.reduceEqDiff]))
     exact(hput1 _ _ _ _ _ ho hn).sub
  ·have c1:¬(i:Int)<ps.length:=by omega
   repeat' (first | (with_reducible refine G.joini0 ?_) | (with_reducible refine G.joini1 ?_) | (with_reducible refine G.drew ?_) | (simp (maxSteps:=2000000) only [↓RG,RP,RB,BEq.rfl,Int.reduceEq,Int.reduceLT,Int.reduceLE,Nat.reduceEqDiff,c1]))
   exact hleave
structure RowsIn (rows:List (List (List bu))):Prop where
 few:rows.length≤3
 ok:∀r∈rows,r.length≤2∧∀p∈r,p.length≤1000∧∀k∈p,uz k
theorem EG {xs:List lD}[a:Av w0 v fj xs](hx:∀x∈xs,∃ys:List lD,Av w0 x.v fj ys∧∀y∈ys,∃zs:List bu,Av w0 y.v dt zs∧∀k∈zs,jM k.n){calm:Bool}(hK:∀u rows,ar u [u]→RowsIn rows→G w0 (ob HS u rows::L) (K u)):G w0 L (CP Tryz.prog Xw [v,i64 14,.bool calm] K):=by
 refine ET ?_
 unfold wE
 refine nX (f:=tM) ?_
 refine G.nilsl fj ?_
 refine G.loop2 (σ:=Nat×List (lD×List (List bu))×Value) (fun z=>z.2.2) (fun z=>i64 z.1) (fun z=>sl fj z.2.2 (z.2.1.map (·.1))::ob (cg tM) () z.2.1::L)
  (fun z=>z.1≤3∧z.2.1.length=z.1∧(∀r∈z.2.1,r.2.length≤2∧∀p∈r.2,p.length≤1000∧∀k∈p,uz k)∧ar z.2.2 [z.2.2]) (fun z=>3-z.1) (0,[],.slice none 0 0) rfl rfl rfl ⟨by decide,rfl,by simp,be⟩ ?_
 rintro⟨i,l,u⟩ ⟨hi,hl,hr,hu⟩ J hJ
 simp only at hi hl hr hu hJ ⊢
 by_cases c:i<xs.length
 ·have c1:(i:Int)<xs.length:=by omega
  have e:eU xs i xs[i]:=⟨List.getElem?_eq_getElem c⟩
  obtain⟨ys,ha,hy⟩:=hx _ (List.getElem_mem c)
  refine gu ?_
  repeat' (first | (with_reducible refine G.joini0 ?_) | (with_reducible refine G.joini1 ?_) | (with_reducible refine G.drew ?_) | (simp (maxSteps:=2000000) only [↓RG,RP,RB,BEq.rfl,Int.reduceEq,Int.reduceLT,Int.reduceLE,Nat.reduceEqDiff,eq_true c1]))
  refine G.cond (fun h3=>?_) (fun h3=>?_)
  ·have hi3:i<3:=by simp only [decide_eq_true_eq] at h3;omega
   repeat' (first | (with_reducible refine G.joini0 ?_) | (with_reducible refine G.joini1 ?_) | (with_reducible refine G.drew ?_) | (simp (maxSteps:=2000000) only [↓RG,RP,RB,BEq.rfl,Int.reduceEq,Int.reduceLT,Int.reduceLE,Nat.reduceEqDiff]))
   refine nX (f:=pm) ?_
   refine G.nilsl fj ?_
   refine G.loop2 (σ:=Nat×List (lD×List bu)×Value) (fun z=>z.2.2) (fun z=>i64 z.1) (fun z=>sl fj z.2.2 (z.2.1.map (·.1))::ob (cg pm) () z.2.1::sl fj u (l.map (·.1))::ob (cg tM) () l::L)
    (fun z=>z.1≤2∧z.2.1.length=z.1∧(∀r∈z.2.1,r.2.length≤1000∧∀k∈r.2,uz k)∧ar z.2.2 [z.2.2]) (fun z=>2-z.1) (0,[],.slice none 0 0) rfl rfl rfl ⟨by decide,rfl,by simp,be⟩ ?_
   rintro⟨k,l2,u2⟩ ⟨hk,hl2,hr2,hu2⟩ J2 hJ2
   simp only at hk hl2 hr2 hu2 hJ2 ⊢
   have hend:G w0 (sl fj u2 (l2.map (·.1))::ob (cg pm) () l2::sl fj u (l.map (·.1))::ob (cg tM) () l::L) (ak [(Value.slice none 0 0)] 1 [(0,1,u2)] (fun x25=>av 1 24 u x25 (fun x26=>J x26 (i64 (IntKind.wrap .i64 ((i:Int)+1)))))):=by
    refine G.isSl (v:=u2) fun s2 e2=>?_
    subst e2
    refine Jg s2.v l2 (ps:=l2.map (·.1)) (rs:=l2.map (·.2)) rfl rfl ?_
    refine G.build fj [s2] rfl (by decide) rfl fun y hy3=>?_
    refine G.append (v:=u) (xs:=l.map fun q:lD×List (List bu)=>q.1) (ys:=[s2]) (by simp;omega) (by simp [maxLen];omega) fun u3 h3=>?_
    rw [di (by omega)]
    have hn:=hJ (i+1,l++[(s2,l2.map (·.2))],u3) ⟨by omega,by simp [hl],fun r hrm=>by
     rcases List.mem_append.1 hrm with g | g
     ·exact hr r g
     ·rw [List.mem_singleton.1 g]
      exact⟨by simp only [List.length_map];omega,fun p hp=>by obtain⟨q,hq,rfl⟩:=List.mem_map.1 hp;exact hr2 q hq⟩,h3⟩ (by simp only;omega)
    simp only [List.map_append,List.map_cons,List.map_nil] at hn
    refine G.pickAll (As:=[tM (s2,l2.map (·.2)),ob (cg tM) () l]) ?_
    rw [List.cons_append,List.cons_append,List.nil_append,←mq]
    exact hn.sub
   by_cases c2:k<ys.length
   ·have c3:(k:Int)<ys.length:=by omega
    have e2:eU ys k ys[k]:=⟨List.getElem?_eq_getElem c2⟩
    obtain⟨zs,hz,hzn⟩:=hy _ (List.getElem_mem c2)
    repeat' (first | (with_reducible refine G.joini0 ?_) | (with_reducible refine G.joini1 ?_) | (with_reducible refine G.drew ?_) | (simp (maxSteps:=2000000) only [↓RG,RP,RB,BEq.rfl,Int.reduceEq,Int.reduceLT,Int.reduceLE,Nat.reduceEqDiff,eq_true c3]))
    refine G.cond (fun h4=>?_) (fun h4=>?_)
    ·have hk2:k<2:=by simp only [decide_eq_true_eq] at h4;omega
     repeat' (first | (with_reducible refine G.joini0 ?_) | (with_reducible refine G.joini1 ?_) | (with_reducible refine G.drew ?_) | (simp (maxSteps:=2000000) only [↓RG,RP,RB,BEq.rfl,Int.reduceEq,Int.reduceLT,Int.reduceLE,Nat.reduceEqDiff]))
     refine B5 (ps:=zs) hzn fun s4 p4 g1 g2=>?_
     refine G.build fj [s4] rfl (by decide) rfl fun y hy3=>?_
     refine G.append (v:=u2) (xs:=l2.map fun q:lD×List bu=>q.1) (ys:=[s4]) (by simp;omega) (by simp [maxLen];omega) fun u3 h3=>?_
     repeat' (first | (with_reducible refine G.joini0 ?_) | (with_reducible refine G.joini1 ?_) | (with_reducible refine G.drew ?_) | (simp (maxSteps:=2000000) only [↓RG,RP,RB,BEq.rfl,Int.reduceEq,Int.reduceLT,Int.reduceLE,Nat.reduceEqDiff]))
     rw [di (by omega)]
     have hn:=hJ2 (k+1,l2++[(s4,p4)],u3) ⟨by omega,by simp [hl2],fun r hrm=>by
      rcases List.mem_append.1 hrm with g | g
      ·exact hr2 r g
      ·rw [List.mem_singleton.1 g];exact⟨g1,g2⟩,h3⟩ (by simp only;omega)
     simp only [List.map_append,List.map_cons,List.map_nil] at hn
     refine G.pickAll (As:=[pm (s4,p4),ob (cg pm) () l2]) ?_
     rw [List.cons_append,List.cons_append,List.nil_append,←mq]
     exact hn.sub
    ·repeat' (first | (with_reducible refine G.joini0 ?_) | (with_reducible refine G.joini1 ?_) | (with_reducible refine G.drew ?_) | (simp (maxSteps:=2000000) only [↓RG,RP,RB,BEq.rfl,Int.reduceEq,Int.reduceLT,Int.reduceLE,Nat.reduceEqDiff]))
     exact hend.sub
   ·have c3:¬(k:Int)<ys.length:=by omega
    repeat' (first | (with_reducible refine G.joini0 ?_) | (with_reducible refine G.joini1 ?_) | (with_reducible refine G.drew ?_) | (simp (maxSteps:=2000000) only [↓RG,RP,RB,BEq.rfl,Int.reduceEq,Int.reduceLT,Int.reduceLE,Nat.reduceEqDiff,c3]))
    exact hend.sub
  ·repeat' (first | (with_reducible refine G.joini0 ?_) | (with_reducible refine G.joini1 ?_) | (with_reducible refine G.drew ?_) | (simp (maxSteps:=2000000) only [↓RG,RP,RB,BEq.rfl,Int.reduceEq,Int.reduceLT,Int.reduceLE,Nat.reduceEqDiff]))
   refine Ic u l (ps:=l.map (·.1)) (rs:=l.map (·.2)) rfl rfl ?_
   exact(hK u (l.map (·.2)) hu ⟨by rw [List.length_map];omega,fun r h=>by obtain⟨q,hq,rfl⟩:=List.mem_map.1 h;exact hr q hq⟩).sub
 ·have c1:¬(i:Int)<xs.length:=by omega
  repeat' (first | (with_reducible refine G.joini0 ?_) | (with_reducible refine G.joini1 ?_) | (with_reducible refine G.drew ?_) | (simp (maxSteps:=2000000) only [↓RG,RP,RB,BEq.rfl,Int.reduceEq,Int.reduceLT,Int.reduceLE,Nat.reduceEqDiff,c1]))
  refine Ic u l (ps:=l.map (·.1)) (rs:=l.map (·.2)) rfl rfl ?_
  exact(hK u (l.map (·.2)) hu ⟨by rw [List.length_map];omega,fun r h=>by obtain⟨q,hq,rfl⟩:=List.mem_map.1 h;exact hr q hq⟩).sub
end
end Go.Proofs.YtoealglbimbbmaaGreatDoor.S
