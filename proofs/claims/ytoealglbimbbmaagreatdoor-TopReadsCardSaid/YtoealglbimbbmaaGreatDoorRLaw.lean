import Derived.Test.YtoealglbimbbmaaGreatDoorRKeep
import Derived.Test.YtoealglbimbbmaaGreatDoorRPq
import Derived.Test.YtoealglbimbbmaaGreatDoorROrd
namespace Go.Proofs.YtoealglbimbbmaaGreatDoor.S
open Go Go.Proofs
set_option linter.unusedVariables false
set_option linter.unusedSimpArgs false
abbrev Lj:List dD:=[⟨8,0,7,6,0⟩,⟨1,1,0,0,1⟩,⟨3,0,0,1,0⟩,⟨9,7,0,6,0⟩,⟨21,0,0,0,0⟩]
theorem RI:ir Lj:=by
 refine⟨by decide,by decide,fun i hi=>?_⟩
 simp only [List.mem_cons,List.not_mem_nil,or_false] at hi
 unfold I5 th
 rcases hi with rfl | rfl | rfl | rfl | rfl <;> simp
abbrev Mc:dQ:=⟨40,4,0,0,0,0,9,20⟩
abbrev ρA:HE:=fun r s=>AZ 401 r s
def WJ (x:jL)(sl:ByteArray):jL:=match x.thr with
 | [t]=>if (br t).2=true then kg ρA x 0 t 0 sl else pD x 0 t
 | _=>x
def Q2:Nat→jL
 | 0=>dM Mc [[Lj]]
 | k+1=>WJ (Q2 k) (I6 [.num 1])
def VH (x:jL):Bool:=match x.thr with
 | [t]=>(match t.now with
  | some a=>(match a.run with | some r=>r.prog.all fun i=>!decide (i.op=23) | none=>true) && (decide (t.state≠1) || decide ((bk ρA a (az x.mem (br t).1).2).state≠8) || ((bk ρA a (az x.mem (br t).1).2).done && (match (bk ρA a (az x.mem (br t).1).2).run with | some r=>decide (r.items=[.num 1]) | none=>false)))
  | none=>true)
 | _=>false
theorem Vw:((List.range 40).all fun k=>VH (Q2 k))=true:=by decide +kernel
def Uz (x:jL):Bool:=decide (x.mem.w.length=40) && decide (x.mem.w[6]? = some 1) && ua x.thr && decide ((wK x).length=1) && (match x.thr with
 | [t]=>(match t.res with | [r]=>r.slate.toList == [49] | _=>false)
 | _=>false)
theorem UX:Uz (Q2 40)=true:=by decide +kernel
section
variable {w0:bg}{L M:List ax}{K:KV}{F:World→Prop}{C:ax→List ax}{b:Nat}{x:jL}{v:Value}{S:dQ}{h0:Hp}{n:Nat}{LG:tE}{t:cY}
theorem Rl {ρ:HE}(hρ:dm ρ){a:ca}(hA:∀r,a.run=some r→qa r a.v)(hn:∀r,a.run=some r→∀i∈r.prog,i.op≠23):gb ρ a=gb ρA a:=by
 unfold gb
 cases hr:a.run with
 | none=>rfl
 | some r=>simp only;rw [(hρ.q r a.v (hA r hr)).det (hn r hr)]
theorem RS {ρ:HE}(hρ:dm ρ){G:Gs}{nl nw i:Nat}{a:ca}{an:fi}(h:iU S h0 n G nl nw i a)(hn:∀r,a.run=some r→∀i∈r.prog,i.op≠23):bk ρ a an=bk ρA a an:=by
 unfold bk
 by_cases s8:a.state=8
 ·rw [if_pos s8,if_pos s8]
 rw [if_neg s8,if_neg s8]
 by_cases s0:a.state=0
 ·rw [if_pos s0,if_pos s0]
 rw [if_neg s0,if_neg s0]
 by_cases s1:a.state=1
 ·rw [if_pos s1,if_pos s1]
 rw [if_neg s1,if_neg s1]
 by_cases s2:a.state=2
 ·rw [if_pos s2,if_pos s2]
  unfold jr
  rw [Rl hρ (h.run (by omega)).1 hn]
 rw [if_neg s2,if_neg s2]
 by_cases s7:a.state=7
 ·rw [if_pos s7,if_pos s7]
 rw [if_neg s7,if_neg s7]
 have hst:=h.st
 unfold eJ
 have he:iI ρ { a with inn:=a.inn.tell an }=iI ρA { a with inn:=a.inn.tell an }:=by
  by_cases s3:a.state=3
  ·obtain⟨_,f,hf,_⟩:=h.fet s3
   have hR:=(h.run (by omega)).1
   have e:({ a with inn:=a.inn.tell an }:ca)={ a with inn:=.fetch (ee f an) }:=by rw [hf]
   rw [e]
   show ev ρ { a with inn:=.fetch (ee f an) } (ee f an)=ev ρA { a with inn:=.fetch (ee f an) } (ee f an)
   unfold ev jr
   have hl:∀{y:Int},(oY a.v a.v.need y).1.l=a.v.l:=Pk
   rw [Rl hρ (a:=py { a with inn:=.fetch (ee f an) } (ee f an)) (fun r hr=>(hR r hr).lv hl) hn]
  ·by_cases s6:a.state=6
   ·obtain⟨c,hc,_⟩:=h.com s6
    have e:({ a with inn:=a.inn.tell an }:ca)={ a with inn:=.com (dj c an) }:=by rw [hc]
    rw [e]
   ·obtain⟨_,q,hq,_⟩:=h.ext (by omega)
    have e:({ a with inn:=a.inn.tell an }:ca)={ a with inn:=.ext (lM q an) }:=by rw [hq]
    rw [e]
 rw [he]
theorem Vv {ρ:HE}(hρ:dm ρ){sl:ByteArray}(hM:MI S h0 n x LG)(h:VH x=true)(ht:x.thr=[t])(hs:∀a,t.now=some a→uf (bk ρ a (az x.mem (br t).1).2) sl):(if (br t).2=true then kg ρ x 0 t 0 sl else pD x 0 t)=WJ x (I6 [.num 1]):=by
 unfold WJ
 rw [ht]
 simp only
 by_cases g:(br t).2=true
 ·rw [if_pos g,if_pos g]
  have key:∀p,thrTell ρ t (az x.mem (br t).1).2 0 p sl=thrTell ρA t (az x.mem (br t).1).2 0 p (I6 [.num 1]):=fun p=>by
   unfold VH at h
   rw [ht] at h
   simp only at h
   unfold thrTell
   by_cases g1:t.state=1
   ·rw [if_pos g1,if_pos g1]
    obtain⟨a,hn,hA,_⟩:=(hM.thr 0 t (by rw [ht];rfl)).run g1
    rw [hn] at h
    simp only [hn] at h ⊢
    have hs:=hs a hn
    rw [Bool.and_eq_true] at h
    obtain⟨hc,h⟩:=h
    rw [RS hρ hA (fun r hr i hi=>by
     rw [hr] at hc
     have:=List.all_eq_true.1 hc i hi
     simpa using this)] at hs ⊢
    generalize bk ρA a (az x.mem (br t).1).2=a' at h hs ⊢
    unfold p6
    by_cases g8:a'.state=8
    ·simp only [g1,g8,ne_eq,not_true,decide_false,Bool.false_or,Bool.and_eq_true] at h
     obtain⟨hd,hr⟩:=h
     cases hrun:a'.run with
     | none=>rw [hrun] at hr;cases hr
     | some r =>
      rw [hrun] at hr
      have e1:r.items=[.num 1]:=by simpa using hr
      have e2:=hs (by simpa [ca.done,g8] using hd) r hrun
      rw [e1] at e2
      have e3:=e2 1 rfl (by decide)
      subst e3
      rfl
    ·have hn2:¬(a'.state=8∧a'.fin≠0):=fun h=>g8 h.1
     simp only [if_neg hn2]
   ·rw [if_neg g1,if_neg g1]
  unfold kg
  rw [key]
 ·rw [if_neg g,if_neg g]
theorem OM (ht:vh w0){i:Nat}{draw:Int}(hM:MI S h0 n x LG)(hU:sF x)(hp:x.picks≤1000000)(hi:x.thr[i]? = some t)(hd:0≤draw)(hd2:draw≤255)[i_:al L lm b x C]
  (hK:∀x',(∃L',MI S h0 n x' L')→sF x'→x'.picks=x.picks+1→(∃ρ sl,dm ρ∧(∀at_,t.now=some at_→uf (bk ρ at_ (az x.mem (br t).1).2) sl)∧x'=if (br t).2=true then kg ρ x i t draw sl else pD x i t)→G w0 (C (ob lm b x')) (K (i64 0))):G w0 L (CP Tryz.prog XW [ptr b 0,i64 i,.int .u8 draw] K):=by
 have hU2:∀ρ,dm ρ→t.state=1→∀a,t.now=some a→∀n∈(bk ρ a (az x.mem (cX a).1).2).items,za n:=fun ρ hρ g1 a ha=>(hU.ans hρ (List.mem_of_getElem? hi) g1 ha).items
 refine GO ht (x:=x) (t:=t) (TV hM hi hp hU2) hd hd2 fun sl ρ hρ hs=>hK _ ?_ (hU.step hρ hi) ?_ ⟨ρ,sl,hρ,hs,rfl⟩
 ·by_cases g:(br t).2=true
  ·rw [if_pos g];exact(Pr hM hi hp g hU2).2 ρ draw sl hρ hd
  ·rw [if_neg g];exact⟨_,Tp hM hi (by simpa using g)⟩
 ·by_cases g:(br t).2=true
  ·rw [if_pos g];rfl
  ·rw [if_neg g]
theorem Ns (hK:∀s:im,G w0 (sl fv s.v Lj::L) (K (.agg #[s.v]))):G w0 L (CP Tryz.prog aaO [i64 6] K):=by
 refine Nv ?_
 unfold GW
 refine G.new fun q=>?_
 refine gg ?_
 refine G.build fv Lj rfl (by decide) (by kernel_rfl) fun v hv=>?_
 refine G.isSl (v:=v) fun s hs=>?_
 subst hs
 refine gg ?_
 exact(hK s).sub
theorem Ry {a b:ByteArray}{K:KV}(h:(a.toList == b.toList)=true):G w0 L (qx .eql (.string a) (.string b) K)=G w0 L (K (.bool true)):=by
 congr 1
 funext w
 show Fi .eql (a.toList == b.toList) K w=_
 rw [h]
 rfl
theorem Lp (ht:vh w0)(hK:G w0 L (K (.bool true))):G w0 L (CP Tryz.prog aaI [] K):=by
 refine LW ?_
 unfold DN
 refine gg ?_
 refine Ns fun sv=>?_
 refine G.build dY [sv] rfl (by decide) rfl fun u1 h1=>?_
 refine G.isSl (v:=u1) fun s1 e1=>?_
 subst e1
 refine G.build dY [s1] rfl (by decide) rfl fun u2 h2=>?_
 refine ll (f:=qo) ?_
 refine ll (f:=qX) ?_
 refine G.pickAll (As:=[qo (sv,Lj),ob (co qo) () []]) ?_
 rw [List.cons_append,List.cons_append,List.nil_append,←gy,List.nil_append]
 refine Fc s1.v [(sv,Lj)] (ps:=[sv]) (rs:=[Lj]) rfl rfl ?_
 refine G.pickAll (As:=[qX (s1,[Lj]),ob (co qX) () []]) ?_
 rw [List.cons_append,List.cons_append,List.nil_append,←gy,List.nil_append]
 refine Pz u2 [(s1,[Lj])] (ps:=[s1]) (rs:=[[Lj]]) rfl rfl ?_
 refine zo (s:=⟨40,4,0,0,0,0,9,20⟩) (rows:=[[Lj]]) (by decide) (fun r hr=>?_) h2 fun b=>?_
 ·rw [List.mem_singleton.1 hr]
  exact⟨by decide,fun p hp=>by rw [List.mem_singleton.1 hp];exact RI⟩
 rw [show dM ⟨40,4,0,0,0,0,9,20⟩ (oO [[Lj]])=Q2 0 from rfl]
 have hM0:=OQ (s:=Mc) (rows:=[[Lj]]) (by decide) (by decide) (fun r hr=>by
  rw [List.mem_singleton.1 hr]
  exact⟨by decide,fun p hp=>by rw [List.mem_singleton.1 hp];exact RI⟩)
 have hU0:=sF.new (s:=Mc) (rows:=[[Lj]]) (fun r hr p hp=>by
  rw [List.mem_singleton.1 hr] at hp
  rw [List.mem_singleton.1 hp]
  unfold fF
  decide)
 rw [show dM Mc [[Lj]]=Q2 0 from rfl] at hM0 hU0
 generalize hS:dC Mc [[Lj]].length=S at hM0
 generalize (fun c:Int=>(Q2 0).mem.w.getD c.toNat 0)=h0 at hM0
 have hn:[[Lj]].length=1:=rfl
 rw [hn] at hM0
 refine gg ?_
 refine G.loop1 (σ:=Nat) (fun z=>i64 z) (fun z=>ob lm b (Q2 z)::ob IL u2 [[Lj]]::L) (fun z=>z≤40∧(Q2 z).picks=z∧sF (Q2 z)∧∃LG,MI S h0 1 (Q2 z) LG) (fun z=>40-z) 0 rfl rfl ⟨Nat.zero_le _,rfl,hU0,_,hM0⟩ ?_
 rintro k ⟨hk,hpk,hU,LG,hM⟩ J hJ
 refine gr ?_
 refine G.cond (fun h=>?_) (fun h=>?_)
 ·have hk2:k<40:=by simp only [decide_eq_true_eq] at h;omega
  have hok:=List.all_eq_true.1 Vw k (List.mem_range.2 hk2)
  obtain⟨t,hthr⟩:=List.length_eq_one_iff.1 hM.len
  refine OM ht hM hU (i:=0) (t:=t) (by omega) (by rw [hthr];rfl) (by decide) (by decide) fun x' hM' hU' hp' hx'=>?_
  obtain⟨ρ,sl,hρ,hs,hx'⟩:=hx'
  rw [Vv hρ hM hok hthr hs,show WJ (Q2 k) (I6 [.num 1])=Q2 (k+1) from rfl] at hx'
  subst hx'
  repeat' (first | (with_reducible refine G.joini0 ?_) | (with_reducible refine G.joini1 ?_) | (with_reducible refine G.drew ?_) | (simp (maxSteps:=2000000) only [↓RG,RP,RB,BEq.rfl,Int.reduceEq,Int.reduceLT,Int.reduceLE,Nat.reduceEqDiff]))
  rw [dt (by omega)]
  exact(hJ (k+1) ⟨hk2,by rw [hp',hpk];rfl,hU',hM'⟩ (by omega)).sub
 ·have hk2:k=40:=by simp only [decide_eq_false_iff_not] at h;omega
  subst hk2
  have he:=UX
  generalize Q2 40=x at hM he hpk hU ⊢
  have hlen:=hM.len
  obtain⟨t,hthr⟩:=List.length_eq_one_iff.1 hlen
  have hat:x.thr[0]? = some t:=by rw [hthr];rfl
  have hT:=hM.thr 0 t hat
  unfold Uz at he
  simp only [Bool.and_eq_true,decide_eq_true_eq,hthr] at he
  obtain⟨⟨⟨⟨hw1,hw2⟩,hr1⟩,hto⟩,hres⟩:=he
  obtain⟨r,hr,hsl⟩:∃r,t.res=[r]∧(r.slate.toList == [49])=true:=by
   revert hres
   cases h:t.res with
   | nil=>intro g;cases g
   | cons r l=>cases l with
    | nil=>intro g;exact⟨r,rfl,g⟩
    | cons=>intro g;cases g
  refine uG (x:=x) (by omega) fun u hu=>?_
  refine Cp (x:=x) (i:=0) (t:=t) hat (by omega) (by rw [hr];simp) fun u3 h3=>?_
  have hel:eA x.mem.w 6 1:=⟨hw2⟩
  have hwl:(x.mem.w.length:Int)=40:=by omega
  rw [hr]
  refine gu ?_
  refine gf hwl ?_
  repeat' (first | (with_reducible refine G.joini0 ?_) | (with_reducible refine G.joini1 ?_) | (with_reducible refine G.drew ?_) | (simp (maxSteps:=2000000) only [↓RG,RP,RB,BEq.rfl,Int.reduceEq,Int.reduceLT,Int.reduceLE,Nat.reduceEqDiff,List.length_cons,List.length_nil,Nat.reduceAdd,Int.cast_ofNat_Int]))
  rw [show fx [49]=.string ⟨#[49]⟩ from rfl,Ry (by simpa using hsl)]
  refine gg ?_
  refine EQ (x:=x) (by omega) ?_
  rw [hthr,hr1]
  refine gg ?_
  refine qd (x:=x) ht (fun t' htm=>?_) (by omega) fun u5 h5=>?_
  ·rw [hthr,List.mem_singleton] at htm
   subst htm
   have:=hT.b.pastn
   refine⟨by omega,fun g=>?_⟩
   obtain⟨a,ha,hA,h8,_⟩:=hT.run g
   exact⟨a,ha,hA.tol h8 ((hU.thr _ (by rw [hthr];exact List.mem_cons_self)).now a ha)⟩
  rw [kG]
  intro q ⟨hq1,hq2⟩
  have hl6:(q.length:Int)=1:=by
   have h9:=congrArg List.length hq1
   rw [List.length_map] at h9
   show (q.length:Int)=1
   have h10:(wK x).length=1:=hto
   omega
  repeat' (first | (with_reducible refine G.joini0 ?_) | (with_reducible refine G.joini1 ?_) | (with_reducible refine G.drew ?_) | (simp (maxSteps:=2000000) only [↓RG,RP,RB,BEq.rfl,Int.reduceEq,Int.reduceLT,Int.reduceLE,Nat.reduceEqDiff,hl6,List.length_map]))
  exact hK.sub
end
end Go.Proofs.YtoealglbimbbmaaGreatDoor.S
namespace Go.Proofs.YtoealglbimbbmaaGreatDoor.S
open Go Go.Proofs
set_option linter.unusedVariables false
set_option linter.unusedSimpArgs false
section
open Go.ChangeShapes Go.WideShapes Go.ChangeAt Go.RowKit
variable {H:Type}{enc:TypeId×Value→H}{P:Program}{w:World}{base:Nat}{spare:Nat→Bool}{heldB:Bool}
theorem Tz {cs:List Value}(h:good FV cs):∃a:eu,t7.enc a=cs∧fF a.k∧fF a.x:=by
 obtain⟨x0,l0,e0,_,h0⟩:=lI h
 obtain⟨x1,l1,e1,_,h1⟩:=lI h0
 obtain⟨x2,l2,e2,h5,h2⟩:=lI h1
 obtain⟨x3,l3,e3,h6,h3⟩:=lI h2
 have e:=GX h3
 exact⟨⟨x0,x1,x2,x3⟩,by subst e;subst e3;subst e2;subst e1;subst e0;rfl,JW h5,JW h6⟩
def VV (w:World)(sz:Nat)(Gd:List Value→Prop)(cs:List Value):Prop:=∃v n,cs=[v]∧M7 sz Gd w v n
theorem Vc {sz n:Nat}{Gd:List Value→Prop}{v:Value}(h:M7 sz Gd w v n):∃a:im,v=a.v:=by
 obtain⟨oa,cap,rfl,_⟩:=h
 exact⟨⟨oa,n,cap⟩,rfl⟩
theorem NL {r:Reach}{b0:Nat}{t e e1:TypeId}{k:Nat}{v:Value}{d:DataW H}{ps:List MemPlace}(ht:P.underlying t=some (.slice e))(ht1:P.underlying e=some (.slice e1))(hk:kinds P k e1=some FV)
  (hc:P.cellsOf e=1) (hc1:P.cellsOf e1=4) (hval:Value.okWide P w r b0 t v) (h:DataW.Trod enc P w base spare heldB t v d ps) :
  ∃xs:List im,E8 (bg.of w) v dY xs∧(∀x∈xs,∃cs:List eu,E8 (bg.of w) x.v t7 cs∧∀c∈cs,fF c.k∧fF c.x)∧(xs.length=0∨∃el sp,d=.slice el sp∧el.length=xs.length):=by
 obtain⟨a,len,cap,rfl⟩:=okWide_slice ht hval
 obtain⟨fuel,hf⟩:=h
 have g1:∀(n:Nat) (cs:List Value) (y:DataW H×List MemPlace),DataW.trod enc P w base spare heldB n e cs=some y→VV w 4 (good FV) cs:=fun n cs y h=>by
  obtain⟨v,m,hv,hr,_⟩:=rR (sz:=4) ht1 hc1 (by decide) (fun m cs' y h=>ul k e1 FV m cs' y hk h) h
  exact⟨v,m,hv,hr⟩
 obtain⟨v,n,hv,hr,hsz⟩:=rR (sz:=1) ht hc (by decide) g1 hf
 obtain rfl:Value.slice a len cap=v:=by simpa [Value.cells] using hv
 have q1:∀cs,VV w 4 (good FV) cs→∃a:im,dY.enc a=cs∧∃zs:List eu,E8 (bg.of w) a.v t7 zs∧∀k∈zs,fF k.k∧fF k.x:=fun cs ⟨v,n,hv,hr⟩=>by
  obtain⟨a,rfl⟩:=Vc hr
  obtain⟨zs,z1,z2,_⟩:=tF t7 (fun k=>fF k.k∧fF k.x) (fun cs hc=>Tz hc) (w:=w) (v:=a.v) (n:=n) hr
  exact⟨a,hv.symm,zs,z1,z2⟩
 obtain⟨xs,h1,h2,h3⟩:=tF dY _ q1 (w:=w) (v:=.slice a len cap) (n:=n) hr
 exact⟨xs,h1,h2,by rw [h3];exact hsz⟩
end
section
variable {w0:bg}{L M:List ax}{K:KV}{F:World→Prop}{C:ax→List ax}{b:Nat}{x:jL}{v:Value}
theorem PL {q:xj}{n:Nat}[i:av v (xj.cells q)](h1:1≤n)(h4:n≤4)(hn:x.thr.length=n)[j:al L lm b x C](hK:∀k:Nat,k<n→G w0 L (K (i64 k))):G w0 L (CP Tryz.prog aaL [ptr b 0,v] K):=by
 refine PH ?_
 unfold Ja
 refine G.box fun p=>?_
 repeat' (first | (with_reducible refine G.joini0 ?_) | (with_reducible refine G.joini1 ?_) | (with_reducible refine G.drew ?_) | (simp (maxSteps:=2000000) only [↓RG,RP,RB,BEq.rfl,Int.reduceEq,Int.reduceLT,Int.reduceLE,Nat.reduceEqDiff]))
 refine Bo (x:=x) ?_
 rw [hn]
 have e1:IntKind.wrap .i64 ((n:Int)-1)=n-1:=ik (by omega) (by omega)
 have hc:(if (n:Int)<1 then (1:Int) else n)=n:=if_neg (by omega)
 refine gf (an hc e1) ?_
 refine iN (by decide) (by omega) (by omega) (by omega) ?_
 obtain⟨w1,w2⟩:=Dx (n:=q.t) (show (0:Int)≤(n:Int)-1 by omega)
 obtain⟨k,hk⟩:=Int.eq_ofNat_of_zero_le w1
 rw [hk] at w2 ⊢
 refine gg ?_
 exact(hK k (by omega)).sub
set_option maxHeartbeats 2000000 in
theorem Fo (ht:vh w0){g:rK}{xv pv:Value}{xs:List im}{ps:List xj}[a1:E8 w0 xv dY xs][a2:E8 w0 pv CV ps]
  (hs0:good ND (Dq.enc g)) (hq1:∀x∈xs,∃cs:List eu,E8 w0 x.v t7 cs∧∀c∈cs,fF c.k∧fF c.x) (hr2:∀x∈ps,good NY (CV.enc x)) (hK:G w0 L (K (.bool true))) :
  G w0 L (CP Tryz.prog aaH [.agg (rK.cells g).toArray,xv,pv] K):=by
 refine Fe ?_
 unfold wE
 refine G.box fun gp=>?_
 refine Lp ht ?_
 refine gu ?_
 refine gg ?_
 refine M9 (xs:=xs) hq1 fun u u2 rows hu hrows=>?_
 refine gg ?_
 refine LL (g:=g) ?_
 have hn1:1≤(oO rows).length:=by rw [yd (by have:=hrows.few;omega)];have:=hrows.few;omega
 have hn4:(oO rows).length≤4:=by rw [yd (by have:=hrows.few;omega)];have:=hrows.few;omega
 have hrok:∀r∈rows,r.length≤6∧∀p∈r,ir p∧∀k∈p,fF k.n:=fun r hr=>⟨by have:=(hrows.ok r hr).1;omega,fun p hp=>by
  obtain⟨h1,h2⟩:=(hrows.ok r hr).2 p hp
  exact⟨⟨h1.1,by omega,fun i hi=>(h2 i hi).1⟩,fun i hi=>(h2 i hi).2⟩⟩
 refine zo (s:=tQ g) (rows:=rows) (by have:=hrows.few;omega) (fun r hr=>⟨(hrok r hr).1,fun p hp=>((hrok r hr).2 p hp).1⟩) hu fun b=>?_
 have hrok:∀r∈oO rows,r.length≤6∧∀p∈r,ir p∧∀k∈p,fF k.n:=by rw [yd (by have:=hrows.few;omega)];exact hrok
 have hst:0≤(tQ g).start:=by
  show 0≤g.start.tmod 1000
  exact Int.tmod_nonneg 1000 (JW hs0.2.2.2.2.2.2.2.2.2.2.2.2.2.1).1
 have hM0:=OQ (s:=tQ g) hn4 hst fun r hr=>⟨(hrok r hr).1,fun p hp=>((hrok r hr).2 p hp).1⟩
 have hU0:=sF.new (s:=tQ g) (rows:=oO rows) fun r hr p hp k hk=>((hrok r hr).2 p hp).2 k hk
 generalize dC (tQ g) (oO rows).length=S at hM0
 generalize (oO rows).length=n at hn1 hn4 hM0
 generalize rZ:dM (tQ g) (oO rows)=x0 at hM0 hU0 ⊢
 have hpk0:x0.picks=0:=by rw [←rZ]
 obtain⟨ws,hws⟩:∃ws,x0.mem.w=ws:=⟨_,rfl⟩
 have hwl:=hM0.set
 rw [hws] at hM0 hwl
 refine gg ?_
 have hw1:32≤ws.length∧ws.length≤256:=by
  have e1:held S.words 32 256=S.words:=congrArg dQ.words hwl.hs
  have e2:=eQ (n:=S.words) (show (32:Int)≤256 by decide)
  have e3:=hwl.nw
  omega
 have hwS:=hwl.nw
 clear hwl
 refine uG (x:=x0) (by rw [hws];omega) fun vw hvw=>?_
 rw [hws]
 refine G.sub (L':=ob lm b x0::sl de vw ws::L) ?_
 refine G.loop1 (σ:=Nat×jL) (fun z=>i64 z.1) (fun z=>ob lm b z.2::sl de vw ws::L) (fun z=>z.1≤60∧z.2.picks≤31*z.1∧sF z.2∧∃LG,MI S (fun c=>ws.getD c.toNat 0) n z.2 LG) (fun z=>60-z.1) (0,x0) rfl rfl ⟨Nat.zero_le _,by simp only [hpk0];decide,hU0,_,hM0⟩ ?_
 rintro⟨i,x⟩ ⟨hi,hpk,hU,LG,hM⟩ J hJ
 simp only at hi hpk hU hM hJ ⊢
 have hord:∀{x:jL} {LG:tE} {K:KV},MI S (fun c=>ws.getD c.toNat 0) n x LG→sF x→x.picks≤100000→G w0 (ob lm b x::sl de vw ws::L) (K (.bool true))→G w0 (ob lm b x::sl de vw ws::L) (CP Tryz.prog XJ [vw,ptr b 0] K):=fun {x LG K} hM hU hp h=>by
  have h3:=hM.set.nw
  refine HX ht hM hU (by omega) (by omega) hw1.1 hw1.2 h
 have hend:G w0 (ob lm b x::sl de vw ws::L) (CP Tryz.prog XJ [vw,ptr b 0] fun x38=>K x38):=hord hM hU (by omega) hK.sub
 by_cases c:i<ps.length
 ·have c1:(i:Int)<ps.length:=by omega
  have e:eA ps i ps[i]:=⟨List.getElem?_eq_getElem c⟩
  have hq:=hr2 _ (List.getElem_mem c)
  generalize ps[i]=q at e hq
  obtain⟨d0,d1⟩:=U4 hq.2.2.2.1
  refine gf (eq_true c1) ?_
  refine G.cond (fun h3=>?_) (fun h3=>?_)
  ·have hi3:i<60:=by simp only [decide_eq_true_eq] at h3;omega
   refine G.loop1 (σ:=Nat×jL) (fun z=>i64 z.1) (fun z=>ob lm b z.2::sl de vw ws::L) (fun z=>z.1≤31∧z.2.picks≤31*i+z.1∧sF z.2∧∃LG,MI S (fun c=>ws.getD c.toNat 0) n z.2 LG) (fun z=>31-z.1) (0,x) rfl rfl ⟨Nat.zero_le _,by simpa using hpk,hU,_,hM⟩ ?_
   rintro⟨k,x⟩ ⟨hk,hpk,hU,LG,hM⟩ J2 hJ2
   simp only at hk hpk hU hM hJ2 ⊢
   refine gg ?_
   refine Ng (q:=q) (by decide) (by decide) ?_
   obtain⟨w1,w2⟩:=Dx (n:=q.n) (show (0:Int)≤30 by decide)
   generalize gn q.n 0 30=w at w1 w2 ⊢
   refine gg ?_
   refine G.cond (fun h4=>?_) (fun h4=>?_)
   ·have hk2:k<31:=by simp only [decide_eq_true_eq] at h4;omega
    repeat' (first | (with_reducible refine G.joini0 ?_) | (with_reducible refine G.joini1 ?_) | (with_reducible refine G.drew ?_) | (simp (maxSteps:=2000000) only [↓RG,RP,RB,BEq.rfl,Int.reduceEq,Int.reduceLT,Int.reduceLE,Nat.reduceEqDiff]))
    refine PL (q:=q) hn1 hn4 hM.len fun j hj=>?_
    refine gg ?_
    have hlt:j<x.thr.length:=by rw [hM.len];exact hj
    refine OM ht hM hU (i:=j) (t:=x.thr[j]) (by omega) (List.getElem?_eq_getElem hlt) d0 d1 fun x' hM' hU' hp' _=>?_
    obtain⟨LG',hM'⟩:=hM'
    have hnext:G w0 (ob lm b x'::sl de vw ws::L) (J2 (i64 (IntKind.wrap .i64 ((k:Int)+1)))):=by
     rw [dt (by omega)]
     exact hJ2 (k+1,x') ⟨hk2,by simp only;omega,hU',_,hM'⟩ (by simp only;omega)
    exact hnext.sub
   ·try simp (maxSteps:=2000000) only [lh,pO,jw,js,pu,iO]
    have hnext:G w0 (ob lm b x::sl de vw ws::L) (J (i64 (IntKind.wrap .i64 ((i:Int)+1)))):=by
     rw [dt (by omega)]
     exact hJ (i+1,x) ⟨hi3,by simp only;omega,hU,_,hM⟩ (by simp only;omega)
    have nz:gZ (4:Int):=⟨by decide⟩
    by_cases c3:(i:Int).tmod 4=3
    ·refine gf (eq_true c3) ?_
     refine hord hM hU (by omega) ?_
     refine gg ?_
     exact hnext.sub
    ·refine gf c3 ?_
     exact hnext.sub
  ·repeat' (first | (with_reducible refine G.joini0 ?_) | (with_reducible refine G.joini1 ?_) | (with_reducible refine G.drew ?_) | (simp (maxSteps:=2000000) only [↓RG,RP,RB,BEq.rfl,Int.reduceEq,Int.reduceLT,Int.reduceLE,Nat.reduceEqDiff]))
   exact hend
 ·have c1:¬(i:Int)<ps.length:=by omega
  refine gf c1 ?_
  exact hend
end
end Go.Proofs.YtoealglbimbbmaaGreatDoor.S
