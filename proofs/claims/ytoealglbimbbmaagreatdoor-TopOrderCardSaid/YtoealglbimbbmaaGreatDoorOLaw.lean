import Derived.Test.YtoealglbimbbmaaGreatDoorOKeep
import Derived.Test.YtoealglbimbbmaaGreatDoorOPq
import Derived.Test.YtoealglbimbbmaaGreatDoorOOrd
namespace Go.Proofs.YtoealglbimbbmaaGreatDoor.S
open Go Go.Proofs
set_option linter.unusedVariables false
set_option linter.unusedSimpArgs false
abbrev Kn:List bu:=[⟨8,0,7,6,0⟩,⟨1,1,0,0,1⟩,⟨3,0,0,1,0⟩,⟨9,7,0,6,0⟩,⟨21,0,0,0,0⟩]
abbrev Kv:eO:=⟨40,4,0,0,0,0,9,20⟩
def UE (x:kI)(sl:ByteArray):kI:=match x.thr with
 | [t]=>if (bj t).2=true then lW x 0 t 0 sl else ru x 0 t
 | _=>x
def Oe:Nat→kI
 | 0=>eH Kv [[Kn]]
 | k+1=>UE (Oe k) (HV [1])
def S5 (x:kI):Bool:=match x.thr with
 | [t]=>(match t.now with
  | some a=>decide (t.state≠1) || decide ((bm a (az x.mem (bj t).1).2).state≠8) || ((bm a (az x.mem (bj t).1).2).done && (match (bm a (az x.mem (bj t).1).2).run with | some r=>decide (r.items=[1]) | none=>false))
  | none=>true)
 | _=>false
theorem TC:((List.range 40).all fun k=>S5 (Oe k))=true:=by decide +kernel
def Sl (x:kI):Bool:=decide (x.mem.w.length=40) && decide (x.mem.w[6]? = some 1) && tR x.thr && decide ((vP x).length=1) && (match x.thr with
 | [t]=>(match t.res with | [r]=>r.slate.toList == [49] | _=>false)
 | _=>false)
theorem ST:Sl (Oe 40)=true:=by decide +kernel
section
variable {w0:bh}{L M:List ay}{K:KV}{F:World→Prop}{C:ay→List ay}{b:Nat}{x:kI}{v:Value}{S:eO}{h0:Hp}{n:Nat}{LG:tW}{t:co}
theorem Ts {sl:ByteArray}(h:S5 x=true)(ht:x.thr=[t])(hs:∀a,t.now=some a→uS (bm a (az x.mem (bj t).1).2) sl):(if (bj t).2=true then lW x 0 t 0 sl else ru x 0 t)=UE x (HV [1]):=by
 unfold UE
 rw [ht]
 simp only
 by_cases g:(bj t).2=true
 ·rw [if_pos g,if_pos g]
  have key:∀p,thrTell t (az x.mem (bj t).1).2 0 p sl=thrTell t (az x.mem (bj t).1).2 0 p (HV [1]):=fun p=>by
   unfold S5 at h
   rw [ht] at h
   simp only at h
   unfold thrTell
   by_cases g1:t.state=1
   ·rw [if_pos g1,if_pos g1]
    cases hn:t.now with
    | none=>rfl
    | some a =>
     rw [hn] at h
     simp only at h ⊢
     have hs:=hs a hn
     generalize bm a (az x.mem (bj t).1).2=a' at h hs ⊢
     unfold qh
     by_cases g8:a'.state=8
     ·simp only [g1,g8,ne_eq,not_true,decide_false,Bool.false_or,Bool.and_eq_true] at h
      obtain⟨hd,hr⟩:=h
      cases hrun:a'.run with
      | none=>rw [hrun] at hr;cases hr
      | some r =>
       rw [hrun] at hr
       have e1:r.items=[1]:=by simpa using hr
       have e2:=hs (by simpa [bq.done,g8] using hd) r hrun
       rw [e1] at e2
       have e3:=e2 rfl (by simp)
       subst e3
       rfl
     ·have hn2:¬(a'.state=8∧a'.fin≠0):=fun h=>g8 h.1
      simp only [if_neg hn2]
   ·rw [if_neg g1,if_neg g1]
  unfold lW
  rw [key]
 ·rw [if_neg g,if_neg g]
theorem Ms (ht:uR w0){i:Nat}{draw:Int}(hM:MI S h0 n x LG)(hU:sq x)(hp:x.picks≤1000000)(hi:x.thr[i]? = some t)(hd:0≤draw)(hd2:draw≤255)[i_:aq L nC b x C]
  (hK:∀x',(∃L',MI S h0 n x' L')→sq x'→x'.picks=x.picks+1→(∃sl,(∀at_,t.now=some at_→uS (bm at_ (az x.mem (bj t).1).2) sl)∧x'=if (bj t).2=true then lW x i t draw sl else ru x i t)→G w0 (C (ob nC b x')) (K (i64 0))):G w0 L (CP Tryz.prog VE [ptr b 0,i64 i,.int .u8 draw] K):=by
 have hU2:t.state=1→∀a,t.now=some a→∀n∈(bm a (az x.mem (cn a).1).2).items,jM n:=fun g1 a ha=>(hU.ans (List.mem_of_getElem? hi) g1 ha).items
 refine FT ht (x:=x) (t:=t) (RU hM hi hp hU2) hd hd2 fun sl hs=>hK _ ?_ (hU.step hi) ?_ ⟨sl,hs,rfl⟩
 ·by_cases g:(bj t).2=true
  ·rw [if_pos g];exact(Mp hM hi hp g hU2).2 draw sl hd
  ·rw [if_neg g];exact⟨_,Ri hM hi (by simpa using g)⟩
 ·by_cases g:(bj t).2=true
  ·rw [if_pos g];rfl
  ·rw [if_neg g]
theorem Me (hK:∀s:lD,G w0 (sl dt s.v Kn::L) (K (.agg #[s.v]))):G w0 L (CP Tryz.prog Xz [i64 6] K):=by
 refine LW ?_
 unfold En
 refine G.new fun q=>?_
 refine gg ?_
 refine G.build dt Kn rfl (by decide) (by kernel_rfl) fun v hv=>?_
 refine G.isSl (v:=v) fun s hs=>?_
 subst hs
 refine gg ?_
 exact(hK s).sub
theorem PL {a b:ByteArray}{K:KV}(h:(a.toList == b.toList)=true):G w0 L (qw .eql (.string a) (.string b) K)=G w0 L (K (.bool true)):=by
 congr 1
 funext w
 show F8 .eql (a.toList == b.toList) K w=_
 rw [h]
 rfl
theorem JU (ht:uR w0)(hK:G w0 L (K (.bool true))):G w0 L (CP Tryz.prog Xu [] K):=by
 refine K0 ?_
 unfold C8
 refine gg ?_
 refine Me fun sv=>?_
 refine G.build fj [sv] rfl (by decide) rfl fun u1 h1=>?_
 refine G.isSl (v:=u1) fun s1 e1=>?_
 subst e1
 refine G.build fj [s1] rfl (by decide) rfl fun u2 h2=>?_
 refine nX (f:=pm) ?_
 refine nX (f:=tM) ?_
 refine G.pickAll (As:=[pm (sv,Kn),ob (cg pm) () []]) ?_
 rw [List.cons_append,List.cons_append,List.nil_append,←mq,List.nil_append]
 refine Jg s1.v [(sv,Kn)] (ps:=[sv]) (rs:=[Kn]) rfl rfl ?_
 refine G.pickAll (As:=[tM (s1,[Kn]),ob (cg tM) () []]) ?_
 rw [List.cons_append,List.cons_append,List.nil_append,←mq,List.nil_append]
 refine Ic u2 [(s1,[Kn])] (ps:=[s1]) (rs:=[[Kn]]) rfl rfl ?_
 refine zi (s:=⟨40,4,0,0,0,0,9,20⟩) (rows:=[[Kn]]) (by decide) (fun r hr=>?_) h2 fun b=>?_
 ·rw [List.mem_singleton.1 hr]
  exact⟨by decide,fun p hp=>by rw [List.mem_singleton.1 hp];decide⟩
 rw [show eH ⟨40,4,0,0,0,0,9,20⟩ (nG [[Kn]])=Oe 0 from rfl]
 have hM0:=MZ (s:=Kv) (rows:=[[Kn]]) (by decide) (by decide) (fun r hr=>by
  rw [List.mem_singleton.1 hr]
  exact⟨by decide,fun p hp=>by rw [List.mem_singleton.1 hp];decide⟩)
 have hU0:=sq.new (s:=Kv) (rows:=[[Kn]]) (fun r hr p hp=>by
  rw [List.mem_singleton.1 hr] at hp
  rw [List.mem_singleton.1 hp]
  unfold jM
  decide)
 rw [show eH Kv [[Kn]]=Oe 0 from rfl] at hM0 hU0
 generalize hS:dp Kv [[Kn]].length=S at hM0
 generalize (fun c:Int=>(Oe 0).mem.w.getD c.toNat 0)=h0 at hM0
 have hn:[[Kn]].length=1:=rfl
 rw [hn] at hM0
 refine gg ?_
 refine G.loop1 (σ:=Nat) (fun z=>i64 z) (fun z=>ob nC b (Oe z)::ob HS u2 [[Kn]]::L) (fun z=>z≤40∧(Oe z).picks=z∧sq (Oe z)∧∃LG,MI S h0 1 (Oe z) LG) (fun z=>40-z) 0 rfl rfl ⟨Nat.zero_le _,rfl,hU0,_,hM0⟩ ?_
 rintro k ⟨hk,hpk,hU,LG,hM⟩ J hJ
 refine gr ?_
 refine G.cond (fun h=>?_) (fun h=>?_)
 ·have hk2:k<40:=by simp only [decide_eq_true_eq] at h;omega
  have hok:=List.all_eq_true.1 TC k (List.mem_range.2 hk2)
  obtain⟨t,hthr⟩:=List.length_eq_one_iff.1 hM.len
  refine Ms ht hM hU (i:=0) (t:=t) (by omega) (by rw [hthr];rfl) (by decide) (by decide) fun x' hM' hU' hp' hx'=>?_
  obtain⟨sl,hs,hx'⟩:=hx'
  rw [Ts hok hthr hs,show UE (Oe k) (HV [1])=Oe (k+1) from rfl] at hx'
  subst hx'
  repeat' (first | (with_reducible refine G.joini0 ?_) | (with_reducible refine G.joini1 ?_) | (with_reducible refine G.drew ?_) | (simp (maxSteps:=2000000) only [↓RG,RP,RB,BEq.rfl,Int.reduceEq,Int.reduceLT,Int.reduceLE,Nat.reduceEqDiff]))
  rw [di (by omega)]
  exact(hJ (k+1) ⟨hk2,by rw [hp',hpk];rfl,hU',hM'⟩ (by omega)).sub
 ·have hk2:k=40:=by simp only [decide_eq_false_iff_not] at h;omega
  subst hk2
  have he:=ST
  generalize Oe 40=x at hM he hpk hU ⊢
  have hlen:=hM.len
  obtain⟨t,hthr⟩:=List.length_eq_one_iff.1 hlen
  have hat:x.thr[0]? = some t:=by rw [hthr];rfl
  have hT:=hM.thr 0 t hat
  unfold Sl at he
  simp only [Bool.and_eq_true,decide_eq_true_eq,hthr] at he
  obtain⟨⟨⟨⟨hw1,hw2⟩,hr1⟩,hto⟩,hres⟩:=he
  obtain⟨r,hr,hsl⟩:∃r,t.res=[r]∧(r.slate.toList == [49])=true:=by
   revert hres
   cases h:t.res with
   | nil=>intro g;cases g
   | cons r l=>cases l with
    | nil=>intro g;exact⟨r,rfl,g⟩
    | cons=>intro g;cases g
  refine uq (x:=x) (by omega) fun u hu=>?_
  refine Bo (x:=x) (i:=0) (t:=t) hat (by omega) (by rw [hr];simp) fun u3 h3=>?_
  have hel:eU x.mem.w 6 1:=⟨hw2⟩
  have hwl:(x.mem.w.length:Int)=40:=by omega
  rw [hr]
  refine gu ?_
  refine gf hwl ?_
  repeat' (first | (with_reducible refine G.joini0 ?_) | (with_reducible refine G.joini1 ?_) | (with_reducible refine G.drew ?_) | (simp (maxSteps:=2000000) only [↓RG,RP,RB,BEq.rfl,Int.reduceEq,Int.reduceLT,Int.reduceLE,Nat.reduceEqDiff,List.length_cons,List.length_nil,Nat.reduceAdd,Int.cast_ofNat_Int]))
  rw [show fP [49]=.string ⟨#[49]⟩ from rfl,PL (by simpa using hsl)]
  refine gg ?_
  refine DB (x:=x) (by omega) ?_
  rw [hthr,hr1]
  refine gg ?_
  refine ql (x:=x) ht (fun t' htm=>?_) (by omega) fun u5 h5=>?_
  ·rw [hthr,List.mem_singleton] at htm
   subst htm
   have:=hT.b.pastn
   refine⟨by omega,fun g=>?_⟩
   obtain⟨a,ha,hA,h8,_⟩:=hT.run g
   exact⟨a,ha,hA.tol h8 ((hU.thr _ (by rw [hthr];exact List.mem_cons_self)).now a ha)⟩
  rw [lz]
  intro q ⟨hq1,hq2⟩
  have hl6:(q.length:Int)=1:=by
   have h9:=congrArg List.length hq1
   rw [List.length_map] at h9
   show (q.length:Int)=1
   have h10:(vP x).length=1:=hto
   omega
  repeat' (first | (with_reducible refine G.joini0 ?_) | (with_reducible refine G.joini1 ?_) | (with_reducible refine G.drew ?_) | (simp (maxSteps:=2000000) only [↓RG,RP,RB,BEq.rfl,Int.reduceEq,Int.reduceLT,Int.reduceLE,Nat.reduceEqDiff,hl6,List.length_map]))
  exact hK.sub
end
end Go.Proofs.YtoealglbimbbmaaGreatDoor.S
namespace Go.Proofs.YtoealglbimbbmaaGreatDoor.S
open Go Go.Proofs
set_option linter.unusedVariables false
set_option linter.unusedSimpArgs false
section
open Go.ChangeShapes Go.WideShapes Go.ChangeAt Go.RowKit
variable {H:Type}{enc:TypeId×Value→H}{P:Program}{w:World}{base:Nat}{spare:Nat→Bool}{heldB:Bool}
abbrev Mi:List CK:=[.i .i64,.i .i64,.i .i64,.i .i64,.i .u64]
theorem Te {cs:List Value}(h:good Mi cs):∃a:bu,dt.enc a=cs∧jM a.n:=by
 obtain⟨x0,l0,e0,_,h0⟩:=kW h
 obtain⟨x1,l1,e1,_,h1⟩:=kW h0
 obtain⟨x2,l2,e2,_,h2⟩:=kW h1
 obtain⟨x3,l3,e3,_,h3⟩:=kW h2
 obtain⟨x4,l4,e4,h5,h4⟩:=kW h3
 have e:=EY h4
 exact⟨⟨x0,x1,x2,x3,x4⟩,by subst e;subst e4;subst e3;subst e2;subst e1;subst e0;rfl,M0 h5⟩
def Nz (w:World)(sz:Nat)(Gd:List Value→Prop)(cs:List Value):Prop:=∃v n,cs=[v]∧Kq sz Gd w v n
theorem QK {sz n:Nat}{Gd:List Value→Prop}{v:Value}(h:Kq sz Gd w v n):∃a:lD,v=a.v:=by
 obtain⟨oa,cap,rfl,_⟩:=h
 exact⟨⟨oa,n,cap⟩,rfl⟩
theorem Lq {r:Reach}{b0:Nat}{t e e1 e2:TypeId}{k:Nat}{v:Value}{d:DataW H}{ps:List MemPlace}(ht:P.underlying t=some (.slice e))(ht1:P.underlying e=some (.slice e1))(ht2:P.underlying e1=some (.slice e2))(hk:kinds P k e2=some Mi)
  (hc:P.cellsOf e=1) (hc1:P.cellsOf e1=1) (hc2:P.cellsOf e2=5) (hval:Value.okWide P w r b0 t v) (h:DataW.Trod enc P w base spare heldB t v d ps) :
  ∃xs:List lD,Av (bh.of w) v fj xs∧(∀x∈xs,∃ys:List lD,Av (bh.of w) x.v fj ys∧∀y∈ys,∃zs:List bu,Av (bh.of w) y.v dt zs∧∀k∈zs,jM k.n)∧(xs.length=0∨∃el sp,d=.slice el sp∧el.length=xs.length):=by
 obtain⟨a,len,cap,rfl⟩:=okWide_slice ht hval
 obtain⟨fuel,hf⟩:=h
 have g1:∀(n:Nat) (cs:List Value) (y:DataW H×List MemPlace),DataW.trod enc P w base spare heldB n e1 cs=some y→Nz w 5 (good Mi) cs:=fun n cs y h=>by
  obtain⟨v,m,hv,hr,_⟩:=nQ (sz:=5) ht2 hc2 (by decide) (fun m cs' y h=>ua k e2 Mi m cs' y hk h) h
  exact⟨v,m,hv,hr⟩
 have g2:∀(n:Nat) (cs:List Value) (y:DataW H×List MemPlace),DataW.trod enc P w base spare heldB n e cs=some y→Nz w 1 (Nz w 5 (good Mi)) cs:=fun n cs y h=>by
  obtain⟨v,m,hv,hr,_⟩:=nQ (sz:=1) ht1 hc1 (by decide) g1 h
  exact⟨v,m,hv,hr⟩
 obtain⟨v,n,hv,hr,hsz⟩:=nQ (sz:=1) ht hc (by decide) g2 hf
 obtain rfl:Value.slice a len cap=v:=by simpa [Value.cells] using hv
 have q1:∀cs,Nz w 5 (good Mi) cs→∃a:lD,fj.enc a=cs∧∃zs:List bu,Av (bh.of w) a.v dt zs∧∀k∈zs,jM k.n:=fun cs ⟨v,n,hv,hr⟩=>by
  obtain⟨a,rfl⟩:=QK hr
  obtain⟨zs,z1,z2,_⟩:=pT dt (fun k=>jM k.n) (fun cs hc=>Te hc) (w:=w) (v:=a.v) (n:=n) hr
  exact⟨a,hv.symm,zs,z1,z2⟩
 have q2:∀cs,Nz w 1 (Nz w 5 (good Mi)) cs→∃a:lD,fj.enc a=cs∧∃ys:List lD,Av (bh.of w) a.v fj ys∧∀y∈ys,∃zs:List bu,Av (bh.of w) y.v dt zs∧∀k∈zs,jM k.n:=fun cs ⟨v,n,hv,hr⟩=>by
  obtain⟨a,rfl⟩:=QK hr
  obtain⟨zs,z1,z2,_⟩:=pT fj _ q1 (w:=w) (v:=a.v) (n:=n) hr
  exact⟨a,hv.symm,zs,z1,z2⟩
 obtain⟨xs,h1,h2,h3⟩:=pT fj _ q2 (w:=w) (v:=.slice a len cap) (n:=n) hr
 exact⟨xs,h1,h2,by rw [h3];exact hsz⟩
end
section
variable {w0:bh}{L M:List ay}{K:KV}{F:World→Prop}{C:ay→List ay}{b:Nat}{x:kI}{v:Value}
theorem OQ {q:xB}{n:Nat}[i:ar v (xB.cells q)](h1:1≤n)(h4:n≤4)(hn:x.thr.length=n)[j:aq L nC b x C](hK:∀k:Nat,k<n→G w0 L (K (i64 k))):G w0 L (CP Tryz.prog Xy [ptr b 0,v] K):=by
 refine OO ?_
 unfold HL
 refine G.box fun p=>?_
 repeat' (first | (with_reducible refine G.joini0 ?_) | (with_reducible refine G.joini1 ?_) | (with_reducible refine G.drew ?_) | (simp (maxSteps:=2000000) only [↓RG,RP,RB,BEq.rfl,Int.reduceEq,Int.reduceLT,Int.reduceLE,Nat.reduceEqDiff]))
 refine BX (x:=x) ?_
 rw [hn]
 have e1:IntKind.wrap .i64 ((n:Int)-1)=n-1:=iy (by omega) (by omega)
 have hc:(if (n:Int)<1 then (1:Int) else n)=n:=if_neg (by omega)
 refine gf (an hc e1) ?_
 refine gA (by decide) (by omega) (by omega) (by omega) ?_
 obtain⟨w1,w2⟩:=xN (n:=q.t) (show (0:Int)≤(n:Int)-1 by omega)
 obtain⟨k,hk⟩:=Int.eq_ofNat_of_zero_le w1
 rw [hk] at w2 ⊢
 refine gg ?_
 exact(hK k (by omega)).sub
theorem Oh {rows:List (List (List bu))}(h:RowsIn rows):1≤(nG rows).length∧(nG rows).length≤4∧∀r∈nG rows,r.length≤6∧∀p∈r,p.length≤1000∧∀k∈p,uz k:=by
 by_cases c:0<rows.length
 ·have:=h.few
  rw [Hm c]
  exact⟨c,by omega,fun r hr=>⟨by have:=(h.ok r hr).1;omega,(h.ok r hr).2⟩⟩
 ·have e:rows=[]:=List.eq_nil_of_length_eq_zero (by omega)
  subst e
  exact⟨by decide,by decide,by simp [nG]⟩
set_option maxHeartbeats 2000000 in
theorem EX (ht:uR w0){g:wq}{xv pv:Value}{xs:List lD}{ps:List xB}[a1:Av w0 xv fj xs][a2:Av w0 pv Cm ps]
  (hs0:good La (Cn.enc g)) (hq1:∀x∈xs,∃ys:List lD,Av w0 x.v fj ys∧∀y∈ys,∃zs:List bu,Av w0 y.v dt zs∧∀k∈zs,jM k.n) (hr2:∀x∈ps,good LD (Cm.enc x)) (hK:G w0 L (K (.bool true))) :
  G w0 L (CP Tryz.prog W0 [.agg (wq.cells g).toArray,xv,pv] K):=by
 refine Fs ?_
 unfold wF
 refine G.box fun gp=>?_
 refine JU ht ?_
 refine gu ?_
 refine gg ?_
 refine zD (g:=g) ?_
 refine EG (xs:=xs) hq1 fun u rows hu hrows=>?_
 obtain⟨hn1,hn4,hrok⟩:=Oh hrows
 refine zi (s:=tw g) (rows:=rows) (by have:=hrows.few;omega) (fun r hr=>⟨by have:=(hrows.ok r hr).1;omega,fun p hp=>((hrows.ok r hr).2 p hp).1⟩) hu fun b=>?_
 have hst:0≤(tw g).start:=by
  show 0≤g.start.tmod 1000
  exact Int.tmod_nonneg 1000 (M0 hs0.2.2.2.2.2.2.2.2.2.2.2.2.2.1).1
 have hM0:=MZ (s:=tw g) hn4 hst fun r hr=>⟨(hrok r hr).1,fun p hp=>⟨((hrok r hr).2 p hp).1,fun k hk=>(((hrok r hr).2 p hp).2 k hk).1⟩⟩
 have hU0:=sq.new (s:=tw g) (rows:=nG rows) fun r hr p hp k hk=>(((hrok r hr).2 p hp).2 k hk).2
 generalize dp (tw g) (nG rows).length=S at hM0
 generalize (nG rows).length=n at hn1 hn4 hM0
 generalize sF:eH (tw g) (nG rows)=x0 at hM0 hU0 ⊢
 have hpk0:x0.picks=0:=by rw [←sF]
 obtain⟨ws,hws⟩:∃ws,x0.mem.w=ws:=⟨_,rfl⟩
 have hwl:=hM0.set
 rw [hws] at hM0 hwl
 refine gg ?_
 have hw1:32≤ws.length∧ws.length≤256:=by
  have e1:held S.words 32 256=S.words:=congrArg eO.words hwl.hs
  have e2:=ft (n:=S.words) (show (32:Int)≤256 by decide)
  have e3:=hwl.nw
  omega
 have hwS:=hwl.nw
 clear hwl
 refine uq (x:=x0) (by rw [hws];omega) fun vw hvw=>?_
 rw [hws]
 refine G.sub (L':=ob nC b x0::sl cx vw ws::L) ?_
 refine G.loop1 (σ:=Nat×kI) (fun z=>i64 z.1) (fun z=>ob nC b z.2::sl cx vw ws::L) (fun z=>z.1≤60∧z.2.picks≤10*z.1∧sq z.2∧∃LG,MI S (fun c=>ws.getD c.toNat 0) n z.2 LG) (fun z=>60-z.1) (0,x0) rfl rfl ⟨Nat.zero_le _,by simp only [hpk0];decide,hU0,_,hM0⟩ ?_
 rintro⟨i,x⟩ ⟨hi,hpk,hU,LG,hM⟩ J hJ
 simp only at hi hpk hU hM hJ ⊢
 have hord:∀{x:kI} {LG:tW} {K:KV},MI S (fun c=>ws.getD c.toNat 0) n x LG→sq x→x.picks≤1000→G w0 (ob nC b x::sl cx vw ws::L) (K (.bool true))→G w0 (ob nC b x::sl cx vw ws::L) (CP Tryz.prog Vh [vw,ptr b 0] K):=fun {x LG K} hM hU hp h=>by
  have h3:=hM.set.nw
  refine Gg ht hM hU (by omega) (by omega) hw1.1 hw1.2 h
 have hend:G w0 (ob nC b x::sl cx vw ws::L) (CP Tryz.prog Vh [vw,ptr b 0] fun x38=>K x38):=hord hM hU (by omega) hK.sub
 by_cases c:i<ps.length
 ·have c1:(i:Int)<ps.length:=by omega
  have e:eU ps i ps[i]:=⟨List.getElem?_eq_getElem c⟩
  have hq:=hr2 _ (List.getElem_mem c)
  generalize ps[i]=q at e hq
  obtain⟨d0,d1⟩:=TM hq.2.2.2.1
  refine gf (eq_true c1) ?_
  refine G.cond (fun h3=>?_) (fun h3=>?_)
  ·have hi3:i<60:=by simp only [decide_eq_true_eq] at h3;omega
   refine G.loop1 (σ:=Nat×kI) (fun z=>i64 z.1) (fun z=>ob nC b z.2::sl cx vw ws::L) (fun z=>z.1≤10∧z.2.picks≤10*i+z.1∧sq z.2∧∃LG,MI S (fun c=>ws.getD c.toNat 0) n z.2 LG) (fun z=>10-z.1) (0,x) rfl rfl ⟨Nat.zero_le _,by simpa using hpk,hU,_,hM⟩ ?_
   rintro⟨k,x⟩ ⟨hk,hpk,hU,LG,hM⟩ J2 hJ2
   simp only at hk hpk hU hM hJ2 ⊢
   refine gg ?_
   refine Lc (q:=q) (by decide) (by decide) ?_
   obtain⟨w1,w2⟩:=xN (n:=q.n) (show (0:Int)≤9 by decide)
   generalize kt q.n 0 9=w at w1 w2 ⊢
   refine gg ?_
   refine G.cond (fun h4=>?_) (fun h4=>?_)
   ·have hk2:k<10:=by simp only [decide_eq_true_eq] at h4;omega
    repeat' (first | (with_reducible refine G.joini0 ?_) | (with_reducible refine G.joini1 ?_) | (with_reducible refine G.drew ?_) | (simp (maxSteps:=2000000) only [↓RG,RP,RB,BEq.rfl,Int.reduceEq,Int.reduceLT,Int.reduceLE,Nat.reduceEqDiff]))
    refine OQ (q:=q) hn1 hn4 hM.len fun j hj=>?_
    refine gg ?_
    have hlt:j<x.thr.length:=by rw [hM.len];exact hj
    refine Ms ht hM hU (i:=j) (t:=x.thr[j]) (by omega) (List.getElem?_eq_getElem hlt) d0 d1 fun x' hM' hU' hp' _=>?_
    obtain⟨LG',hM'⟩:=hM'
    have hnext:G w0 (ob nC b x'::sl cx vw ws::L) (J2 (i64 (IntKind.wrap .i64 ((k:Int)+1)))):=by
     rw [di (by omega)]
     exact hJ2 (k+1,x') ⟨hk2,by simp only;omega,hU',_,hM'⟩ (by simp only;omega)
    have nz:iG (3:Int):=⟨by decide⟩
    by_cases c3:(IntKind.wrap .i64 ((i:Int)+k)).tmod 3=0
    ·refine gf (eq_true c3) ?_
     refine hord hM' hU' (by omega) ?_
     refine gg ?_
     exact hnext.sub
    ·refine gf c3 ?_
     exact hnext.sub
   ·repeat' (first | (with_reducible refine G.joini0 ?_) | (with_reducible refine G.joini1 ?_) | (with_reducible refine G.drew ?_) | (simp (maxSteps:=2000000) only [↓RG,RP,RB,BEq.rfl,Int.reduceEq,Int.reduceLT,Int.reduceLE,Nat.reduceEqDiff]))
    rw [di (by omega)]
    exact(hJ (i+1,x) ⟨hi3,by simp only;omega,hU,_,hM⟩ (by simp only;omega)).sub
  ·repeat' (first | (with_reducible refine G.joini0 ?_) | (with_reducible refine G.joini1 ?_) | (with_reducible refine G.drew ?_) | (simp (maxSteps:=2000000) only [↓RG,RP,RB,BEq.rfl,Int.reduceEq,Int.reduceLT,Int.reduceLE,Nat.reduceEqDiff]))
   exact hend
 ·have c1:¬(i:Int)<ps.length:=by omega
  refine gf c1 ?_
  exact hend
end
end Go.Proofs.YtoealglbimbbmaaGreatDoor.S
