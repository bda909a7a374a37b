import Derived.Test.YtoealglbimbbmaaGreatDoorGChk
import Derived.Test.YtoealglbimbbmaaGreatDoorView
import Derived.Test.YtoealglbimbbmaaGreatDoorArena
import Derived.Test.YtoealglbimbbmaaGreatDoorArr
namespace Go.Proofs.YtoealglbimbbmaaGreatDoor.S
open Go Go.Proofs
set_option linter.unusedVariables false
set_option linter.unusedSimpArgs false
structure yp where
 r0:Int
 r1:Int
 r2:Int
 r3:Int
 r4:Int
 r5:Int
 r6:Int
 r7:Int
 deriving DecidableEq
def yp.get (r:yp):Nat→Int
 | 0=>r.r0 | 1=>r.r1 | 2=>r.r2 | 3=>r.r3 | 4=>r.r4 | 5=>r.r5 | 6=>r.r6 | _=>r.r7
def yp.set (r:yp)(k:Nat)(x:Int):yp:=match k with
 | 0=>{ r with r0:=x } | 1=>{ r with r1:=x } | 2=>{ r with r2:=x } | 3=>{ r with r3:=x } | 4=>{ r with r4:=x } | 5=>{ r with r5:=x } | 6=>{ r with r6:=x } | _=>{ r with r7:=x }
abbrev yp.cells (r:yp):List Value:=[u64 r.r0,u64 r.r1,u64 r.r2,u64 r.r3,u64 r.r4,u64 r.r5,u64 r.r6,u64 r.r7]
structure jW where
 op:Int
 at_:Int
 regs:yp
 told:Int
 deriving DecidableEq
abbrev jW.cells (a:jW):List Value:=[i64 a.op,i64 a.at_,u64 a.regs.r0,u64 a.regs.r1,u64 a.regs.r2,u64 a.regs.r3,u64 a.regs.r4,u64 a.regs.r5,u64 a.regs.r6,u64 a.regs.r7,i64 a.told]
abbrev zg:jS jW:=⟨11,jW.cells,fun | [.int .i64 x0,.int .i64 x1,.int .u64 x2,.int .u64 x3,.int .u64 x4,.int .u64 x5,.int .u64 x6,.int .u64 x7,.int .u64 x8,.int .u64 x9,.int .i64 x10]=>some ⟨x0,x1,⟨x2,x3,x4,x5,x6,x7,x8,x9⟩,x10⟩ | _=>none,by decide,fun _=>rfl,by simp [one],fun cs a h=>by split at h <;> cases h;rfl⟩
instance {a:jW}:fx zg a (jW.cells a):=⟨rfl⟩
structure fm where
 prog:List bu
 mt:List Int
 bad:Int
 err:Int
 fin:Int
 r:yp
 items:List Int
 pos:Int
 next:Int
 left:Int
 op:List jW
abbrev fm.cells (x:fm)(vl vm vo:Value)(vp op:Nat):List Value:=[vl,ptr vp 0,vm,i64 x.bad,i64 x.err,i64 x.fin,u64 x.r.r0,u64 x.r.r1,u64 x.r.r2,u64 x.r.r3,u64 x.r.r4,u64 x.r.r5,u64 x.r.r6,u64 x.r.r7,ptr op 0,i64 x.pos,i64 x.next,i64 x.left,vo]
def eN (k:Nat×Nat)(x:fm):ay:=mW fun vl=>mW fun vm=>mW fun vo=>mW fun op=>bk (ie (ar vl [vl]∧ar vm [vm]∧ar vo [vo])) (bk (bk (bk (bk (own k.1 (x.cells vl vm vo k.2 op)) (sl dt vl x.prog)) (sl bg vm x.mt)) (sl zg vo x.op.reverse)) (ob hZ op x.items))
section
variable {w0:bh}{L M:List ay}{K:KV}{F:World→Prop}{C:ay→List ay}{b vp op:Nat}{x:fm}{s:fR}{v vl vm vo:Value}
theorem dd:G w0 (ob eN (b,vp) x::M) F=∀vl vm vo op,(ar vl [vl]∧ar vm [vm]∧ar vo [vo])→G w0 (own b (x.cells vl vm vo vp op)::sl dt vl x.prog::sl bg vm x.mt::sl zg vo x.op.reverse::ob hZ op x.items::M) F:=by
 rw [eZ,eN]
 simp only [qv,fa,fU]
theorem ba {vl vm vo:Value}(b vp op:Nat)(x:fm){ps:List jW} [ez [own b (x.cells vl vm vo vp op),sl dt vl x.prog,sl bg vm x.mt,sl zg vo ps,ob hZ op x.items] L M](hp:ps=x.op.reverse)(h:ar vl [vl]∧ar vm [vm]∧ar vo [vo])(H:G w0 (ob eN (b,vp) x::M) F):G w0 L F :=
 G.pickAll (As:=[own b (x.cells vl vm vo vp op),sl dt vl x.prog,sl bg vm x.mt,sl zg vo ps,ob hZ op x.items]) (by rw [dd] at H;rw [hp];exact H vl vm vo op h)
abbrev BG (p:List bu)(fuel:Int):fm:=⟨p,ny p,Ak p,0,0,⟨0,0,0,0,0,0,0,0⟩,[],0,0,held fuel 0 400,[]⟩
theorem IQ {p:List bu}{fuel:Int}[r:Rd w0 L v dt 5 p](hv:ar v [v])(hl:p.length≤1000000)(hK:∀b,G w0 (ob eN (b,vp) (BG p fuel)::L) (K (ptr b 0))):G w0 L (CP Tryz.prog Xa [.agg #[v],ptr vp 0,i64 fuel] K):=by
 refine IP ?_
 unfold Bu
 refine G.box fun q=>?_
 refine gr ?_
 refine G.nilsl dt ?_
 refine G.append (E:=dt) (xs:=[]) (ys:=p) (by simp;omega) (by simp [maxLen];omega) fun u hu=>?_
 simp only [List.nil_append]
 refine gr ?_
 refine CT hu hl fun a=>?_
 repeat' (first | (with_reducible refine G.joini0 ?_) | (with_reducible refine G.joini1 ?_) | (with_reducible refine G.drew ?_) | (simp (maxSteps:=2000000) only [↓RG,RP,RB,BEq.rfl,Int.reduceEq,Int.reduceLT,Int.reduceLE,Nat.reduceEqDiff]))
 refine Gi hu hl fun u2 hu2=>?_
 refine gg ?_
 refine KQ fun op=>?_
 refine gg ?_
 refine G.box fun b=>?_
 have e:(if (if (400:Int)<fuel then 400 else fuel) > 0 then if (400:Int)<fuel then 400 else fuel else 0)=held fuel 0 400:=by unfold held;split <;> split <;> split <;> (try split) <;> omega
 refine eY e ?_
 refine G.nilsl zg ?_
 refine ba (vo:=.slice none 0 0) (ps:=[]) b vp op (BG p fuel) rfl ⟨hu,hu2,be⟩ ?_
 exact(hK b).sub
theorem H0 [i:aq L eN (b,vp) x C](hK:G w0 L (K (i64 x.err))):G w0 L (CP Tryz.prog Xb [ptr b 0] K):=by
 refine i.ro (fun M hK=>?_) hK
 refine yB ?_
 unfold pF
 rw [dd] at *
 intro vl vm vo op h
 have hK:=hK vl vm vo op h
 refine gr ?_
 exact hK
theorem ER (hl:x.items.length≤1000000)[i:aq L eN (b,vp) x C](hK:∀c,G w0 (ob hZ c x.items::L) (K (ptr c 0))):G w0 L (CP Tryz.prog Xc [ptr b 0] K):=by
 refine i.roN (P:=fun _=>True) (N:=fun c=>ob hZ c x.items) (F':=fun c=>K (ptr c 0)) (fun M hK=>?_) (fun c _=>hK c)
 refine uK ?_
 unfold mG
 rw [dd]
 intro vl vm vo op h
 refine gr ?_
 refine zY (xs:=x.items) hl fun c=>?_
 refine ba b vp op x rfl h ?_
 exact(hK c trivial).sub
theorem sc {e:Int}[i:aq L eN (b,vp) x C](hK:G w0 (C (ob eN (b,vp) { x with fin:=4,err:=e })) (K (.tuple #[]))):G w0 L (CP Tryz.prog VB [ptr b 0,i64 e] K):=by
 refine i.use (fun M hK=>?_) hK
 refine vU ?_
 unfold od
 rw [dd] at *
 intro vl vm vo op h
 have hK:=hK vl vm vo op h
 refine gr ?_
 exact hK
theorem Kd {xs:List Int}[i:aq L hZ b xs C](hK:G w0 L (K (i64 xs.length))):G w0 L (CP Tryz.prog Xd [ptr b 0] K):=by
 refine i.ro (fun M hK=>?_) hK
 refine BF ?_
 unfold rP
 rw [eK] at *
 intro v hv
 have hK:=hK v hv
 refine gr ?_
 exact hK
theorem J6 {xs:List Int}{k:Nat}(hk:k≤xs.length)(hl:xs.length≤1000000)[i:aq L hZ b xs C](hK:G w0 (C (ob hZ b (xs.take k))) (K (.tuple #[]))):G w0 L (CP Tryz.prog Xe [ptr b 0,i64 k] K):=by
 refine i.use (fun M hK=>?_) hK
 refine BL ?_
 unfold rr
 rw [eK]
 intro v hv
 have e1:(if (xs.length:Int)<k then (xs.length:Int) else k)=k:=by rw [if_neg (by omega)]
 have e2:(if (k:Int) > 0 then (k:Int) else 0)=k:=by split <;> omega
 repeat' (first | (with_reducible refine G.joini0 ?_) | (with_reducible refine G.joini1 ?_) | (with_reducible refine G.drew ?_) | (simp (maxSteps:=2000000) only [↓RG,RP,RB,BEq.rfl,Int.reduceEq,Int.reduceLT,Int.reduceLE,Nat.reduceEqDiff,e1,e2]))
 refine G.take (m:=k) hk fun u hu=>?_
 refine lM (xs:=xs.take k) (by simp only [List.length_take];omega) fun u2 hu2=>?_
 refine gg ?_
 rw [eK] at hK
 exact(hK u2 hu2).sub
theorem FJ {xs:List Int}{n:Int}[i:aq L hZ b xs C](hl:xs.length≤16)(hK:G w0 (C (ob hZ b (if xs.length<16 then xs++[n] else xs))) (K (.bool (decide (xs.length<16))))):G w0 L (CP Tryz.prog V3 [ptr b 0,u64 n] K):=by
 by_cases h:xs.length<16
 ·rw [if_pos h,decide_eq_true h] at hK
  exact xm h hK
 ·rw [if_neg h,decide_eq_false h] at hK
  refine i.use (fun M hK=>?_) hK
  refine oM ?_
  unfold jt
  refine gr ?_
  refine rO ?_
  unfold lU
  rw [eK] at *
  intro v hv
  have hK:=hK v hv
  have h16:(16:Int)≤xs.length:=by omega
  refine eY h16 ?_
  exact hK
abbrev iT (x:fm)(s:fR)(op_ at_:Int):fm×fR×Int:=if (lK s.l).2=0 then ({ x with op:=⟨op_,at_,x.r,x.items.length⟩::x.op },s.log (lK s.l).1,0) else (x,s.log (lK s.l).1,(lK s.l).2)
theorem vK {o a:Int}(hl:x.op.length≤1000)(hK:G w0 (ob eN (b,vp) (iT x s o a).1::ob br vp (iT x s o a).2.1::M) (K (i64 (iT x s o a).2.2))) :
  G w0 (ob eN (b,vp) x::ob br vp s::M) (CP Tryz.prog VC [ptr b 0,i64 o,i64 a] K):=by
 refine vd ?_
 unfold mX
 rw [dd]
 intro vl vm vo op h
 unfold iT at hK
 refine gg ?_
 refine JF (s:=s) ?_
 by_cases c:(lK s.l).2=0
 ·simp only [if_pos c] at hK
  repeat' (first | (with_reducible refine G.joini0 ?_) | (with_reducible refine G.joini1 ?_) | (with_reducible refine G.drew ?_) | (simp (maxSteps:=2000000) only [↓RG,RP,RB,BEq.rfl,Int.reduceEq,Int.reduceLT,Int.reduceLE,Nat.reduceEqDiff,c]))
  refine Kd (xs:=x.items) ?_
  refine gg ?_
  refine G.build zg [⟨o,a,x.r,x.items.length⟩] rfl (by decide) rfl fun y hy=>?_
  refine gg ?_
  refine G.append (E:=zg) (xs:=x.op.reverse) (ys:=[⟨o,a,x.r,x.items.length⟩]) (by simp only [List.length_reverse,List.length_singleton];omega) (by simp only [List.length_reverse,List.length_singleton,maxLen];omega) fun u5 h5=>?_
  refine gg ?_
  refine ba (vo:=u5) (ps:=x.op.reverse++[⟨o,a,x.r,x.items.length⟩]) b vp op { x with op:=⟨o,a,x.r,x.items.length⟩::x.op } (by simp) ⟨h.1,h.2.1,h5⟩ ?_
  exact hK.sub
 ·simp only [if_neg c] at hK
  refine gf c ?_
  refine ba b vp op x rfl h ?_
  exact hK.sub
theorem Ob {α:Type}{a:α}{l:List α}:(a::l).reverse.take l.length=l.reverse:=by
 rw [List.reverse_cons,List.take_append_of_le_length (by simp)]
 exact List.take_of_length_le (by simp)
theorem lH {q:jW}{ps:List jW}(ho:x.op=q::ps)(hl:ps.length≤1000)(hK:G w0 (ob eN (b,vp) { x with op:=ps }::M) (K (.agg (jW.cells q).toArray))) :
  G w0 (ob eN (b,vp) x::M) (CP Tryz.prog Vc [ptr b 0] K):=by
 refine uQ ?_
 unfold my
 refine G.new fun q1=>?_
 rw [fA,dd]
 intro vl vm vo op h
 rw [ho]
 have e1:IntKind.wrap .i64 ((((q::ps).reverse.length:Nat):Int)-1)=((ps.length:Nat):Int):=by
  simp only [List.length_reverse,List.length_cons]
  rw [iy (by omega) (by omega)];omega
 have e:eU (q::ps).reverse ps.length q:=⟨by rw [List.reverse_cons,List.getElem?_append_right (by simp)];simp⟩
 repeat' (first | (with_reducible refine G.joini0 ?_) | (with_reducible refine G.joini1 ?_) | (with_reducible refine G.drew ?_) | (simp (maxSteps:=2000000) only [↓RG,RP,RB,BEq.rfl,Int.reduceEq,Int.reduceLT,Int.reduceLE,Nat.reduceEqDiff,e1]))
 refine G.new fun q2=>?_
 repeat' (first | (with_reducible refine G.joini0 ?_) | (with_reducible refine G.joini1 ?_) | (with_reducible refine G.drew ?_) | (simp (maxSteps:=2000000) only [↓RG,RP,RB,BEq.rfl,Int.reduceEq,Int.reduceLT,Int.reduceLE,Nat.reduceEqDiff,e1]))
 refine G.take (m:=ps.length) (by simp) fun u hu=>?_
 rw [Ob]
 refine gg ?_
 refine ba (vo:=u) (ps:=ps.reverse) b vp op { x with op:=ps } rfl ⟨h.1,h.2.1,hu⟩ ?_
 exact hK.sub
theorem yO {q:jW}{k:Nat}(hq:q.told=k)(hk:k≤x.items.length)(hl:x.items.length≤1000000)[i:aq L eN (b,vp) x C](hK:G w0 (C (ob eN (b,vp) { x with r:=q.regs,items:=x.items.take k })) (K (.tuple #[]))) :
  G w0 L (CP Tryz.prog V4 [ptr b 0,.agg (jW.cells q).toArray] K):=by
 refine i.use (fun M hK=>?_) hK
 refine vX ?_
 unfold ol
 refine G.box fun q1=>?_
 rw [fA,dd]
 intro vl vm vo op h
 repeat' (first | (with_reducible refine G.joini0 ?_) | (with_reducible refine G.joini1 ?_) | (with_reducible refine G.drew ?_) | (simp (maxSteps:=2000000) only [↓RG,RP,RB,BEq.rfl,Int.reduceEq,Int.reduceLT,Int.reduceLE,Nat.reduceEqDiff]))
 rw [hq]
 refine J6 (xs:=x.items) hk hl ?_
 refine gg ?_
 refine ba b vp op { x with r:=q.regs,items:=x.items.take k } rfl h ?_
 exact hK.sub
def gP (x:fm)(s:fR):List jW→fm×fR×Int
 | []=>({ x with op:=[],next:=x.pos,fin:=3 },s,0)
 | q::ps=>if (fX s.l).2=0 then
   (if q.op=17 then iT { x with op:=ps,r:=q.regs,items:=x.items.take q.told.toNat,next:=x.mt.getD q.at_.toNat 0+1 } (s.log (fX s.l).1) 18 (x.mt.getD q.at_.toNat 0)
    else gP x (s.log (fX s.l).1) ps)
  else ({ x with op:=ps },s.log (fX s.l).1,(fX s.l).2)
theorem E8:gP x s []=({ x with op:=[],next:=x.pos,fin:=3 },s,0):=rfl
theorem xq {q:jW}{ps:List jW}:gP x s (q::ps)=if (fX s.l).2=0 then
   (if q.op=17 then iT { x with op:=ps,r:=q.regs,items:=x.items.take q.told.toNat,next:=x.mt.getD q.at_.toNat 0+1 } (s.log (fX s.l).1) 18 (x.mt.getD q.at_.toNat 0)
    else gP x (s.log (fX s.l).1) ps)
  else ({ x with op:=ps },s.log (fX s.l).1,(fX s.l).2):=rfl
def IL (x:fm)(l:List jW):Prop:=∀q∈l,0≤q.told∧q.told≤x.items.length∧0≤q.at_∧q.at_<x.mt.length
def S9 (l:List Int):Prop:=∀n∈l,-1≤n∧n≤1000
theorem QA {l:List Int}(h:S9 l){k:Nat}(hk:k<l.length):eU l k (l.getD k 0)∧-1≤l.getD k 0∧l.getD k 0≤1000:=by
 have e:l[k]? = some l[k]:=List.getElem?_eq_getElem hk
 have e2:l.getD k 0=l[k]:=by rw [List.getD_eq_getElem?_getD,e];rfl
 rw [e2]
 exact⟨⟨e⟩,h _ (List.getElem_mem hk)⟩
theorem Ey (hl:x.op.length≤1000)(hi:x.items.length≤1000000)(hp:IL x x.op)(hm:S9 x.mt)(hK:G w0 (ob eN (b,vp) (gP x s x.op).1::ob br vp (gP x s x.op).2.1::M) (K (i64 (gP x s x.op).2.2))) :
  G w0 (ob eN (b,vp) x::ob br vp s::M) (CP Tryz.prog Xf [ptr b 0] K):=by
 refine uN ?_
 unfold mY
 refine G.loop0 (σ:=List jW×fR) (fun z=>ob eN (b,vp) { x with op:=z.1 }::ob br vp z.2::M) (fun z=>z.1.length≤1000∧IL x z.1∧gP x z.2 z.1=gP x s x.op) (fun z=>z.1.length) (x.op,s) rfl ⟨hl,hp,rfl⟩ ?_
 rintro⟨ps,t⟩ ⟨hpl,hpp,he⟩ J hJ
 simp only at hpl hpp he hJ ⊢
 rw [←he] at hK
 cases ps with
 | nil =>
  rw [dd]
  intro vl vm vo op h
  repeat' (first | (with_reducible refine G.joini0 ?_) | (with_reducible refine G.joini1 ?_) | (with_reducible refine G.drew ?_) | (simp (maxSteps:=2000000) only [↓RG,RP,RB,BEq.rfl,Int.reduceEq,Int.reduceLT,Int.reduceLE,Nat.reduceEqDiff,List.reverse_nil,List.length_nil,Int.cast_ofNat_Int]))
  rw [E8] at hK
  refine ba (vo:=vo) (ps:=[]) b vp op { x with op:=[],next:=x.pos,fin:=3 } rfl h ?_
  exact hK.sub
 | cons q ps =>
  obtain⟨t0,t1,a0,a1⟩:=hpp q (by simp)
  simp only [List.length_cons] at hpl
  have hl1:((0:Int)<(((q::ps).reverse.length:Nat):Int))=True:=eq_true (by simp)
  rw [dd]
  intro vl vm vo op h
  refine gf hl1 ?_
  refine ba b vp op { x with op:=q::ps } rfl h ?_
  refine lH (x:={ x with op:=q::ps }) (q:=q) (ps:=ps) rfl (by omega) ?_
  refine gg ?_
  refine G.new fun q1=>?_
  refine G.take1 eN (b,vp) ?_
  rw [dd]
  intro vl vm vo op h
  refine gg ?_
  refine Ds (s:=t) ?_
  rw [xq] at hK he
  by_cases c:(fX t.l).2=0
  ·rw [if_pos c] at hK he
   by_cases c2:q.op=17
   ·rw [if_pos c2] at hK
    obtain⟨g1,g2,g3⟩:=QA hm (k:=q.at_.toNat) (by omega)
    have ix:ij q.at_ q.at_.toNat:=⟨by omega⟩
    have ew:IntKind.wrap .i64 (x.mt.getD q.at_.toNat 0+1)=x.mt.getD q.at_.toNat 0+1:=iy (by omega) (by omega)
    refine gf (an c (eq_true c2)) ?_
    refine ba b vp op { x with op:=ps } rfl h ?_
    refine yO (vp:=vp) (x:={ x with op:=ps }) (q:=q) (k:=q.told.toNat) (by omega) (by simp only;omega) hi ?_
    refine G.take1 eN (b,vp) ?_
    rw [dd]
    intro vl vm vo op h
    repeat' (first | (with_reducible refine G.joini0 ?_) | (with_reducible refine G.joini1 ?_) | (with_reducible refine G.drew ?_) | (simp (maxSteps:=2000000) only [↓RG,RP,RB,BEq.rfl,Int.reduceEq,Int.reduceLT,Int.reduceLE,Nat.reduceEqDiff,ew]))
    refine ba b vp op { x with op:=ps,r:=q.regs,items:=x.items.take q.told.toNat,next:=x.mt.getD q.at_.toNat 0+1 } rfl h ?_
    refine G.pickAll (As:=[ob eN (b,vp) { x with op:=ps,r:=q.regs,items:=x.items.take q.told.toNat,next:=x.mt.getD q.at_.toNat 0+1 },ob br vp (t.log (fX t.l).1)]) ?_
    simp only [List.cons_append,List.nil_append]
    refine vK (x:={ x with op:=ps,r:=q.regs,items:=x.items.take q.told.toNat,next:=x.mt.getD q.at_.toNat 0+1 }) (s:=t.log (fX t.l).1) (by simp only;omega) ?_
    repeat' (first | (with_reducible refine G.joini0 ?_) | (with_reducible refine G.joini1 ?_) | (with_reducible refine G.drew ?_) | (simp (maxSteps:=2000000) only [↓RG,RP,RB,BEq.rfl,Int.reduceEq,Int.reduceLT,Int.reduceLE,Nat.reduceEqDiff]))
    exact hK.sub
   ·rw [if_neg c2] at he
    refine gf (an c c2) ?_
    refine ba b vp op { x with op:=ps } rfl h ?_
    exact(hJ (ps,t.log (fX t.l).1) ⟨by show ps.length≤1000;omega,fun z hz=>hpp z (List.mem_cons_of_mem _ hz),he⟩ (by simp)).sub
  ·rw [if_neg c] at hK
   refine gf c ?_
   refine ba b vp op { x with op:=ps } rfl h ?_
   exact hK.sub
def A1 (x:fm)(s:fR)(o:Int):fm×fR×Int :=
 if o=14∨o=17 then iT x s o x.pos
 else if o=15∨o=19 then ({ x with op:=x.op.tail },s.log (m9 s.l).1,(m9 s.l).2)
 else if o=18 then ({ x with op:=x.op.tail,next:=x.mt.getD x.pos.toNat 0+1 },s.log (m9 s.l).1,(m9 s.l).2)
 else if o=16 then ({ x with op:=x.op.tail,r:=(x.op.headD ⟨0,0,⟨0,0,0,0,0,0,0,0⟩,0⟩).regs,items:=x.items.take (x.op.headD ⟨0,0,⟨0,0,0,0,0,0,0,0⟩,0⟩).told.toNat,next:=x.mt.getD x.pos.toNat 0+1 },s.log (fX s.l).1,(fX s.l).2)
 else gP x s x.op
structure Pp (x:fm)(s:fR)(o:Int):Prop where
 len:x.op.length≤1000
 items:x.items.length≤1000000
 parts:IL x x.op
 mt:S9 x.mt
 frees:s.l.frees.length≤1000000
 ne:(o=15∨o=16∨o=18∨o=19)→x.op≠[]
 pos:(o=16∨o=18)→0≤x.pos∧x.pos<x.mt.length
theorem GD {i:bu}(ho:Pp x s i.op)(hK:G w0 (ob eN (b,vp) (A1 x s i.op).1::ob br vp (A1 x s i.op).2.1::M) (K (i64 (A1 x s i.op).2.2))) :
  G w0 (ob eN (b,vp) x::ob br vp s::M) (CP Tryz.prog Xg [ptr b 0,.agg #[i64 i.op,i64 i.a,i64 i.b,i64 i.c,u64 i.n]] K):=by
 refine v8 ?_
 unfold ov
 refine G.box fun q=>?_
 unfold A1 at hK
 by_cases h14:i.op=14∨i.op=17
 ·rw [if_pos h14] at hK
  refine G.take1 eN (b,vp) ?_
  rw [dd]
  intro vl vm vo op h
  have hfin:G w0 (own b (x.cells vl vm vo vp op)::sl dt vl x.prog::sl bg vm x.mt::sl zg vo x.op.reverse::ob hZ op x.items::own q [i64 i.op,i64 i.a,i64 i.b,i64 i.c,u64 i.n]::ob br vp s::M) (CP Tryz.prog VC [ptr b 0,i64 i.op,i64 x.pos] (fun x11=>andP (andP ac (andP ac ac)) (K x11))):=by
   refine ba b vp op x rfl h ?_
   refine G.pickAll (As:=[ob eN (b,vp) x,ob br vp s]) ?_
   simp only [List.cons_append,List.nil_append]
   refine vK (x:=x) (s:=s) ho.len ?_
   refine gg ?_
   exact hK.sub
  rcases h14 with h14 | h14
  ·repeat' (first | (with_reducible refine G.joini0 ?_) | (with_reducible refine G.joini1 ?_) | (with_reducible refine G.drew ?_) | (simp (maxSteps:=2000000) only [↓RG,RP,RB,BEq.rfl,Int.reduceEq,Int.reduceLT,Int.reduceLE,Nat.reduceEqDiff,eq_true h14]))
   exact hfin
  ·have c:¬i.op=14:=by omega
   repeat' (first | (with_reducible refine G.joini0 ?_) | (with_reducible refine G.joini1 ?_) | (with_reducible refine G.drew ?_) | (simp (maxSteps:=2000000) only [↓RG,RP,RB,BEq.rfl,Int.reduceEq,Int.reduceLT,Int.reduceLE,Nat.reduceEqDiff,c,eq_true h14]))
   exact hfin
 rw [if_neg h14] at hK
 have c14:¬i.op=14:=fun g=>h14 (.inl g)
 have c17:¬i.op=17:=fun g=>h14 (.inr g)
 have hleave:(i.op=15∨i.op=16∨i.op=18∨i.op=19)→∃p ps,x.op=p::ps∧x.op.tail=ps∧ps.length≤1000:=fun g=>by
  have:=ho.ne g
  have hl:=ho.len
  cases hx:x.op with
  | nil=>exact absurd hx this
  | cons p ps=>rw [hx] at hl;exact⟨p,ps,rfl,rfl,by simp at hl;omega⟩
 by_cases h15:i.op=15∨i.op=19
 ·rw [if_pos h15] at hK
  obtain⟨p,ps,e1,e2,e3⟩:=hleave (by omega)
  rw [e2] at hK
  have hfin:G w0 (own q [i64 i.op,i64 i.a,i64 i.b,i64 i.c,u64 i.n]::ob eN (b,vp) x::ob br vp s::M) (CP Tryz.prog Vc [ptr b 0] (fun x14=>ab (ptr b 1) (fun x17=>CP Tryz.prog VD [x17] (fun x18=>K x18)))):=by
   refine G.pickAll (As:=[ob eN (b,vp) x]) ?_
   simp only [List.cons_append,List.nil_append]
   refine lH (x:=x) (q:=p) (ps:=ps) e1 e3 ?_
   rw [dd]
   intro vl vm vo op h
   refine gg ?_
   refine Dd (s:=s) ho.frees ?_
   refine ba b vp op { x with op:=ps } rfl h ?_
   exact hK.sub
  rcases h15 with h15 | h15
  ·repeat' (first | (with_reducible refine G.joini0 ?_) | (with_reducible refine G.joini1 ?_) | (with_reducible refine G.drew ?_) | (simp (maxSteps:=2000000) only [↓RG,RP,RB,BEq.rfl,Int.reduceEq,Int.reduceLT,Int.reduceLE,Nat.reduceEqDiff,c14,c17,eq_true h15]))
   exact hfin
  ·have c:¬i.op=15:=by omega
   repeat' (first | (with_reducible refine G.joini0 ?_) | (with_reducible refine G.joini1 ?_) | (with_reducible refine G.drew ?_) | (simp (maxSteps:=2000000) only [↓RG,RP,RB,BEq.rfl,Int.reduceEq,Int.reduceLT,Int.reduceLE,Nat.reduceEqDiff,c14,c17,c,eq_true h15]))
   exact hfin
 rw [if_neg h15] at hK
 have c15:¬i.op=15:=fun g=>h15 (.inl g)
 have c19:¬i.op=19:=fun g=>h15 (.inr g)
 by_cases h18:i.op=18
 ·rw [if_pos h18] at hK
  obtain⟨p,ps,e1,e2,e3⟩:=hleave (by omega)
  obtain⟨p0,p1⟩:=ho.pos (.inr h18)
  obtain⟨g1,g2,g3⟩:=QA ho.mt (k:=x.pos.toNat) (by omega)
  have ix:ij x.pos x.pos.toNat:=⟨by omega⟩
  have ew:IntKind.wrap .i64 (x.mt.getD x.pos.toNat 0+1)=x.mt.getD x.pos.toNat 0+1:=iy (by omega) (by omega)
  rw [e2] at hK
  repeat' (first | (with_reducible refine G.joini0 ?_) | (with_reducible refine G.joini1 ?_) | (with_reducible refine G.drew ?_) | (simp (maxSteps:=2000000) only [↓RG,RP,RB,BEq.rfl,Int.reduceEq,Int.reduceLT,Int.reduceLE,Nat.reduceEqDiff,c14,c17,c15,c19,eq_true h18]))
  refine G.pickAll (As:=[ob eN (b,vp) x]) ?_
  simp only [List.cons_append,List.nil_append]
  refine lH (x:=x) (q:=p) (ps:=ps) e1 e3 ?_
  rw [dd]
  intro vl vm vo op h
  repeat' (first | (with_reducible refine G.joini0 ?_) | (with_reducible refine G.joini1 ?_) | (with_reducible refine G.drew ?_) | (simp (maxSteps:=2000000) only [↓RG,RP,RB,BEq.rfl,Int.reduceEq,Int.reduceLT,Int.reduceLE,Nat.reduceEqDiff,ew]))
  refine Dd (s:=s) ho.frees ?_
  refine ba b vp op { x with op:=ps,next:=x.mt.getD x.pos.toNat 0+1 } rfl h ?_
  exact hK.sub
 rw [if_neg h18] at hK
 by_cases h16:i.op=16
 ·rw [if_pos h16] at hK
  obtain⟨p,ps,e1,e2,e3⟩:=hleave (by omega)
  obtain⟨p0,p1⟩:=ho.pos (.inl h16)
  obtain⟨t0,t1,_,_⟩:=ho.parts p (by rw [e1];simp)
  obtain⟨g1,g2,g3⟩:=QA ho.mt (k:=x.pos.toNat) (by omega)
  have ix:ij x.pos x.pos.toNat:=⟨by omega⟩
  have ew:IntKind.wrap .i64 (x.mt.getD x.pos.toNat 0+1)=x.mt.getD x.pos.toNat 0+1:=iy (by omega) (by omega)
  rw [e2,e1] at hK
  simp only [List.headD_cons] at hK
  repeat' (first | (with_reducible refine G.joini0 ?_) | (with_reducible refine G.joini1 ?_) | (with_reducible refine G.drew ?_) | (simp (maxSteps:=2000000) only [↓RG,RP,RB,BEq.rfl,Int.reduceEq,Int.reduceLT,Int.reduceLE,Nat.reduceEqDiff,c14,c17,c15,c19,h18,eq_true h16]))
  refine G.pickAll (As:=[ob eN (b,vp) x]) ?_
  simp only [List.cons_append,List.nil_append]
  refine lH (x:=x) (q:=p) (ps:=ps) e1 e3 ?_
  refine yO (vp:=vp) (x:={ x with op:=ps }) (q:=p) (k:=p.told.toNat) (by omega) (by simp only;omega) ho.items ?_
  rw [dd]
  intro vl vm vo op h
  repeat' (first | (with_reducible refine G.joini0 ?_) | (with_reducible refine G.joini1 ?_) | (with_reducible refine G.drew ?_) | (simp (maxSteps:=2000000) only [↓RG,RP,RB,BEq.rfl,Int.reduceEq,Int.reduceLT,Int.reduceLE,Nat.reduceEqDiff,ew]))
  refine Ds (s:=s) ?_
  refine ba b vp op { x with op:=ps,r:=p.regs,items:=x.items.take p.told.toNat,next:=x.mt.getD x.pos.toNat 0+1 } rfl h ?_
  exact hK.sub
 rw [if_neg h16] at hK
 repeat' (first | (with_reducible refine G.joini0 ?_) | (with_reducible refine G.joini1 ?_) | (with_reducible refine G.drew ?_) | (simp (maxSteps:=2000000) only [↓RG,RP,RB,BEq.rfl,Int.reduceEq,Int.reduceLT,Int.reduceLE,Nat.reduceEqDiff,c14,c17,c15,c19,h18,h16]))
 refine G.pickAll (As:=[ob eN (b,vp) x,ob br vp s]) ?_
 simp only [List.cons_append,List.nil_append]
 refine Ey (x:=x) (s:=s) ho.len ho.items ho.parts ho.mt ?_
 exact hK.sub
abbrev m8 (n:Int):Nat:=(n.tmod 8).toNat
theorem Nk {n:Int}(h:0≤n):m8 n<8∧n.tmod 8=(m8 n:Int):=by
 have h1:=Int.tmod_nonneg 8 h
 have h2:=Int.tmod_lt_of_pos n (show (0:Int)<8 by decide)
 unfold m8
 omega
theorem wc {k:Nat}(hk:k<8):Ju (x.cells vl vm vo vp op) (6+k) (u64 (x.r.get k)):=by
 match k,hk with
 | 0,_=>exact⟨rfl⟩
 | 1,_=>exact⟨rfl⟩
 | 2,_=>exact⟨rfl⟩
 | 3,_=>exact⟨rfl⟩
 | 4,_=>exact⟨rfl⟩
 | 5,_=>exact⟨rfl⟩
 | 6,_=>exact⟨rfl⟩
 | 7,_=>exact⟨rfl⟩
abbrev rb (x:fm)(k:Nat)(y:Int):fm:={ x with r:=x.r.set k y }
theorem EV {k:Nat}{y:Int}(hk:k<8):rt (x.cells vl vm vo vp op) (6+k) [u64 y] ((rb x k y).cells vl vm vo vp op):=by
 match k,hk with
 | 0,_=>exact⟨rfl,by simp⟩
 | 1,_=>exact⟨rfl,by simp⟩
 | 2,_=>exact⟨rfl,by simp⟩
 | 3,_=>exact⟨rfl,by simp⟩
 | 4,_=>exact⟨rfl,by simp⟩
 | 5,_=>exact⟨rfl,by simp⟩
 | 6,_=>exact⟨rfl,by simp⟩
 | 7,_=>exact⟨rfl,by simp⟩
class UD (k n:Nat):Prop where
 lt:k<n
theorem jJ {o n k m:Nat}{kd:IntKind}{i:Int}[hi:ij i k][ha:zh o k m][hk:UD k n]:G w0 L (nP n 1 (ptr b o) (.int kd i) K)=G w0 L (K (ptr b m)):=Ad fun w H=>by
 have h1:=hi.eq
 have h2:=ha.eq
 have h:=hk.lt
 subst h1 h2
 simp [nP,h]
abbrev QF (base off:Int):Int:=iF (iF base+off)
def gN (base off:Int):Int×Int:=if 2147483648≤base∨2147483648≤QF base off∨QF base off<6 then (0,2) else (QF base off,0)
theorem wN {base off:Int}(hK:G w0 L (K (.tuple #[i64 (gN base off).1,i64 (gN base off).2]))):G w0 L (CP Tryz.prog V5 [u64 base,i64 off] K):=by
 refine E3 ?_
 unfold wC
 unfold gN at hK
 refine gu ?_
 by_cases c1:2147483648≤base
 ·rw [if_pos (.inl c1)] at hK
  refine eY c1 ?_
  exact hK
 ·by_cases c2:2147483648≤IntKind.wrap .i64 (IntKind.wrap .i64 base+off)
  ·rw [if_pos (.inr (.inl c2))] at hK
   refine eY (an c1 c2) ?_
   exact hK
  ·by_cases c3:IntKind.wrap .i64 (IntKind.wrap .i64 base+off)<6
   ·rw [if_pos (.inr (.inr c3))] at hK
    refine eY (an c1 (an c2 c3)) ?_
    exact hK
   ·rw [if_neg (by rintro(g | g | g) <;> contradiction)] at hK
    refine eY (an c1 (an c2 c3)) ?_
    exact hK
def B3 (t:Bool):Int:=if t then 1 else 0
theorem vO {t:Bool}(hK:G w0 L (K (u64 (B3 t)))):G w0 L (CP Tryz.prog V6 [.bool t] K):=by
 refine ED ?_
 unfold vZ
 cases t
 ·refine gr ?_
  exact hK
 ·refine gr ?_
  exact hK
def tD (x:fm)(s:fR)(i:bu):fm×fR×Int :=
 if i.op=8 then (if (gN (x.r.get (m8 i.b)) i.c).2≠0 then (x,s,2)
  else if (cr s (gN (x.r.get (m8 i.b)) i.c).1).2.2=0 then (rb x (m8 i.a) (cr s (gN (x.r.get (m8 i.b)) i.c).1).2.1,(cr s (gN (x.r.get (m8 i.b)) i.c).1).1,0)
  else (x,(cr s (gN (x.r.get (m8 i.b)) i.c).1).1,(cr s (gN (x.r.get (m8 i.b)) i.c).1).2.2))
 else if i.op=9 then (if (gN (x.r.get (m8 i.a)) i.c).2≠0 then (x,s,2) else (x,(se s (gN (x.r.get (m8 i.a)) i.c).1 (x.r.get (m8 i.b))).1,(se s (gN (x.r.get (m8 i.a)) i.c).1 (x.r.get (m8 i.b))).2))
 else if i.op=10 then (if 2147483648≤x.r.get (m8 i.b) then (x,s,3)
  else if (jE s (iF (x.r.get (m8 i.b)))).2.2=0 then (rb x (m8 i.a) (wU (jE s (iF (x.r.get (m8 i.b)))).2.1),(jE s (iF (x.r.get (m8 i.b)))).1,0)
  else (x,(jE s (iF (x.r.get (m8 i.b)))).1,(jE s (iF (x.r.get (m8 i.b)))).2.2))
 else (if 2147483648≤x.r.get (m8 i.a) then (x,s,2) else (x,(zt s (iF (x.r.get (m8 i.a)))).1,(zt s (iF (x.r.get (m8 i.a)))).2))
def QY (x:fm)(s:fR)(i:bu):fm×fR×Int :=
 if i.op=1 then (rb x (m8 i.a) i.n,s,0)
 else if i.op=2 then (rb x (m8 i.a) (x.r.get (m8 i.b)),s,0)
 else if i.op=3 then (rb x (m8 i.a) (IntKind.wrap .u64 (x.r.get (m8 i.b)+x.r.get (m8 i.c))),s,0)
 else if i.op=4 then (rb x (m8 i.a) (IntKind.wrap .u64 (x.r.get (m8 i.b)-x.r.get (m8 i.c))),s,0)
 else if i.op=5 then (rb x (m8 i.a) (IntKind.wrap .u64 (x.r.get (m8 i.b)*x.r.get (m8 i.c))),s,0)
 else if i.op=6 then (rb x (m8 i.a) (B3 (decide (x.r.get (m8 i.b)<x.r.get (m8 i.c)))),s,0)
 else if i.op=7 then (rb x (m8 i.a) (B3 (decide (x.r.get (m8 i.b)=x.r.get (m8 i.c)))),s,0)
 else if i.op=12 then ({ x with next:=i.c },s,0)
 else if i.op=13 then (if x.r.get (m8 i.a)=0 then { x with next:=i.c } else x,s,0)
 else if i.op=21 then (if x.items.length<16 then ({ x with items:=x.items++[x.r.get (m8 i.a)] },s,0) else (x,s,5))
 else if i.op=22 then (x,s,13)
 else if i.op=8∨i.op=9∨i.op=10∨i.op=11 then tD x s i
 else A1 x s i.op
structure TE (x:fm)(s:fR)(i:bu):Prop where
 a:0≤i.a
 b:0≤i.b
 c:0≤i.c
 op:i.op≠23
 few:x.items.length≤16
 frees:s.l.r.f.length≤1000
 turn:Pp x s i.op
theorem MM:∀{l:List au}{s:kh},(jk s l).1.r.f=s.r.f
 | [],_=>rfl
 | c::l,s=>by
  unfold jk
  split
  ·rw [MM];rfl
  ·rfl
theorem Rl {s:fR}{l:List au}:(gU s l).1.l.r.f=s.l.r.f:=by
 unfold gU
 split
 ·show (pu s.l l).1.r.f=_
  unfold pu
  split
  ·exact MM
  ·rfl
 ·rfl
theorem MH {s:fR}{a:Int}:(cr s a).1.l=s.l:=by
 unfold cr
 split
 ·split
  ·rfl
  ·split <;> rfl
 ·rfl
theorem QU {s:fR}{a:Int}:(i0 s a).1.l=s.l:=by
 unfold i0
 split
 ·rfl
 ·split
  ·split <;> exact MH
  ·exact MH
theorem D8 {i:bu}(ho:TE x s i)(h89:i.op=8∨i.op=9∨i.op=10∨i.op=11)(hK:G w0 (ob eN (b,vp) (tD x s i).1::ob br vp (tD x s i).2.1::M) (K (i64 (tD x s i).2.2))) :
  G w0 (ob eN (b,vp) x::ob br vp s::M) (CP Tryz.prog V7 [ptr b 0,.agg #[i64 i.op,i64 i.a,i64 i.b,i64 i.c,u64 i.n],ptr b (6+m8 i.a),u64 (x.r.get (m8 i.b))] K):=by
 refine uU ?_
 unfold m4
 obtain⟨la,ea⟩:=Nk ho.a
 refine G.box fun q=>?_
 unfold tD at hK
 rcases h89 with h8 | h9 | h10 | h11
 ·rw [if_pos h8] at hK
  refine gf (eq_true h8) ?_
  refine wN ?_
  by_cases c:(gN (x.r.get (m8 i.b)) i.c).2=0
  ·rw [if_neg (fun g=>g c)] at hK
   refine G.take1 eN (b,vp) ?_
   rw [dd]
   intro vl vm vo op h
   have sg:=EV (x:=x) (vl:=vl) (vm:=vm) (vo:=vo) (vp:=vp) (op:=op) (k:=m8 i.a) (y:=(cr s (gN (x.r.get (m8 i.b)) i.c).1).2.1) la
   refine gf c ?_
   refine lu (s:=s) ?_
   by_cases c2:(cr s (gN (x.r.get (m8 i.b)) i.c).1).2.2=0
   ·rw [if_pos c2] at hK
    repeat' (first | (with_reducible refine G.joini0 ?_) | (with_reducible refine G.joini1 ?_) | (with_reducible refine G.drew ?_) | (simp (maxSteps:=2000000) only [↓RG,RP,RB,BEq.rfl,Int.reduceEq,Int.reduceLT,Int.reduceLE,Nat.reduceEqDiff,c2]))
    refine ba b vp op (rb x (m8 i.a) (cr s (gN (x.r.get (m8 i.b)) i.c).1).2.1) rfl h ?_
    exact hK.sub
   ·rw [if_neg c2] at hK
    refine gf c2 ?_
    refine ba b vp op x rfl h ?_
    exact hK.sub
  ·rw [if_pos c] at hK
   have c3:(gN (x.r.get (m8 i.b)) i.c).2=2:=by
    unfold gN at c ⊢
    split
    ·rfl
    ·rename_i g;rw [if_neg g] at c;exact absurd rfl c
   rw [c3]
   refine gg ?_
   exact hK.sub
 ·have h8:¬i.op=8:=by omega
  rw [if_neg h8,if_pos h9] at hK
  refine G.take1 eN (b,vp) ?_
  rw [dd]
  intro vl vm vo op h
  have nt:=wc (x:=x) (vl:=vl) (vm:=vm) (vo:=vo) (vp:=vp) (op:=op) (k:=m8 i.a) la
  repeat' (first | (with_reducible refine G.joini0 ?_) | (with_reducible refine G.joini1 ?_) | (with_reducible refine G.drew ?_) | (simp (maxSteps:=2000000) only [↓RG,RP,RB,BEq.rfl,Int.reduceEq,Int.reduceLT,Int.reduceLE,Nat.reduceEqDiff,h8,eq_true h9]))
  refine wN ?_
  by_cases c:(gN (x.r.get (m8 i.a)) i.c).2=0
  ·rw [if_neg (fun g=>g c)] at hK
   refine gf c ?_
   refine Ib (s:=s) ?_
   refine ba b vp op x rfl h ?_
   exact hK.sub
  ·rw [if_pos c] at hK
   have c3:(gN (x.r.get (m8 i.a)) i.c).2=2:=by
    unfold gN at c ⊢
    split
    ·rfl
    ·rename_i g;rw [if_neg g] at c;exact absurd rfl c
   rw [c3]
   refine gg ?_
   refine ba b vp op x rfl h ?_
   exact hK.sub
 ·have h8:¬i.op=8:=by omega
  have h9:¬i.op=9:=by omega
  rw [if_neg h8,if_neg h9,if_pos h10] at hK
  by_cases c:2147483648≤x.r.get (m8 i.b)
  ·rw [if_pos c] at hK
   refine gf (an h8 (an h9 (an (eq_true h10) c))) ?_
   exact hK.sub
  ·rw [if_neg c] at hK
   refine G.take1 eN (b,vp) ?_
   rw [dd]
   intro vl vm vo op h
   have sg:=EV (x:=x) (vl:=vl) (vm:=vm) (vo:=vo) (vp:=vp) (op:=op) (k:=m8 i.a) (y:=wU (jE s (iF (x.r.get (m8 i.b)))).2.1) la
   refine gf (an h8 (an h9 (an (eq_true h10) c))) ?_
   refine GY (s:=s) ?_
   by_cases c2:(jE s (iF (x.r.get (m8 i.b)))).2.2=0
   ·rw [if_pos c2] at hK
    repeat' (first | (with_reducible refine G.joini0 ?_) | (with_reducible refine G.joini1 ?_) | (with_reducible refine G.drew ?_) | (simp (maxSteps:=2000000) only [↓RG,RP,RB,BEq.rfl,Int.reduceEq,Int.reduceLT,Int.reduceLE,Nat.reduceEqDiff,c2]))
    refine ba b vp op (rb x (m8 i.a) (wU (jE s (iF (x.r.get (m8 i.b)))).2.1)) rfl h ?_
    exact hK.sub
   ·rw [if_neg c2] at hK
    refine gf c2 ?_
    refine ba b vp op x rfl h ?_
    exact hK.sub
 ·have h8:¬i.op=8:=by omega
  have h9:¬i.op=9:=by omega
  have h10:¬i.op=10:=by omega
  rw [if_neg h8,if_neg h9,if_neg h10] at hK
  refine G.take1 eN (b,vp) ?_
  rw [dd]
  intro vl vm vo op h
  have nt:=wc (x:=x) (vl:=vl) (vm:=vm) (vo:=vo) (vp:=vp) (op:=op) (k:=m8 i.a) la
  by_cases c:2147483648≤x.r.get (m8 i.a)
  ·rw [if_pos c] at hK
   refine gf (an h8 (an h9 (an h10 c))) ?_
   refine ba b vp op x rfl h ?_
   exact hK.sub
  ·rw [if_neg c] at hK
   have hf:=ho.frees
   repeat' (first | (with_reducible refine G.joini0 ?_) | (with_reducible refine G.joini1 ?_) | (with_reducible refine G.drew ?_) | (simp (maxSteps:=2000000) only [↓RG,RP,RB,BEq.rfl,Int.reduceEq,Int.reduceLT,Int.reduceLE,Nat.reduceEqDiff,h8,h9,h10,c]))
   refine II (s:=s) hf (fun l=>by rw [Rl,QU];omega) ?_
   refine gg ?_
   refine ba b vp op x rfl h ?_
   exact hK.sub
theorem JR {i:bu}(ho:TE x s i)(hK:G w0 (ob eN (b,vp) (QY x s i).1::ob br vp (QY x s i).2.1::M) (K (i64 (QY x s i).2.2))) :
  G w0 (ob eN (b,vp) x::ob br vp s::M) (CP Tryz.prog Xh [ptr b 0,.agg #[i64 i.op,i64 i.a,i64 i.b,i64 i.c,u64 i.n]] K):=by
 refine zA ?_
 unfold qu
 obtain⟨la,ea⟩:=Nk ho.a
 obtain⟨lb,eb⟩:=Nk ho.b
 obtain⟨lc,ec⟩:=Nk ho.c
 have ixa:ij (i.a.tmod 8) (m8 i.a):=⟨ea⟩
 have ixb:ij (i.b.tmod 8) (m8 i.b):=⟨eb⟩
 have ixc:ij (i.c.tmod 8) (m8 i.c):=⟨ec⟩
 have ka:UD (m8 i.a) 8:=⟨la⟩
 have kb:UD (m8 i.b) 8:=⟨lb⟩
 have kc:UD (m8 i.c) 8:=⟨lc⟩
 have o23:=ho.op
 refine G.box fun q=>?_
 refine G.take1 eN (b,vp) ?_
 rw [dd]
 intro vl vm vo op h
 have na:=wc (x:=x) (vl:=vl) (vm:=vm) (vo:=vo) (vp:=vp) (op:=op) la
 have nb:=wc (x:=x) (vl:=vl) (vm:=vm) (vo:=vo) (vp:=vp) (op:=op) lb
 have nc:=wc (x:=x) (vl:=vl) (vm:=vm) (vo:=vo) (vp:=vp) (op:=op) lc
 have sg:=fun y=>EV (x:=x) (vl:=vl) (vm:=vm) (vo:=vo) (vp:=vp) (op:=op) (y:=y) la
 unfold QY at hK
 by_cases c1:i.op=1
 ·rw [if_pos c1] at hK
  repeat' (first | (with_reducible refine G.joini0 ?_) | (with_reducible refine G.joini1 ?_) | (with_reducible refine G.drew ?_) | (simp (maxSteps:=2000000) only [↓RG,RP,RB,BEq.rfl,Int.reduceEq,Int.reduceLT,Int.reduceLE,Nat.reduceEqDiff,jJ,eq_true c1]))
  refine ba b vp op (rb x (m8 i.a) (i.n)) rfl h ?_
  exact hK.sub
 rw [if_neg c1] at hK
 by_cases c2:i.op=2
 ·rw [if_pos c2] at hK
  repeat' (first | (with_reducible refine G.joini0 ?_) | (with_reducible refine G.joini1 ?_) | (with_reducible refine G.drew ?_) | (simp (maxSteps:=2000000) only [↓RG,RP,RB,BEq.rfl,Int.reduceEq,Int.reduceLT,Int.reduceLE,Nat.reduceEqDiff,jJ,c1,eq_true c2]))
  refine ba b vp op (rb x (m8 i.a) (x.r.get (m8 i.b))) rfl h ?_
  exact hK.sub
 rw [if_neg c2] at hK
 by_cases c3:i.op=3
 ·rw [if_pos c3] at hK
  repeat' (first | (with_reducible refine G.joini0 ?_) | (with_reducible refine G.joini1 ?_) | (with_reducible refine G.drew ?_) | (simp (maxSteps:=2000000) only [↓RG,RP,RB,BEq.rfl,Int.reduceEq,Int.reduceLT,Int.reduceLE,Nat.reduceEqDiff,jJ,c1,c2,eq_true c3]))
  refine ba b vp op (rb x (m8 i.a) (IntKind.wrap .u64 (x.r.get (m8 i.b)+x.r.get (m8 i.c)))) rfl h ?_
  exact hK.sub
 rw [if_neg c3] at hK
 by_cases c4:i.op=4
 ·rw [if_pos c4] at hK
  repeat' (first | (with_reducible refine G.joini0 ?_) | (with_reducible refine G.joini1 ?_) | (with_reducible refine G.drew ?_) | (simp (maxSteps:=2000000) only [↓RG,RP,RB,BEq.rfl,Int.reduceEq,Int.reduceLT,Int.reduceLE,Nat.reduceEqDiff,jJ,c1,c2,c3,eq_true c4]))
  refine ba b vp op (rb x (m8 i.a) (IntKind.wrap .u64 (x.r.get (m8 i.b)-x.r.get (m8 i.c)))) rfl h ?_
  exact hK.sub
 rw [if_neg c4] at hK
 by_cases c5:i.op=5
 ·rw [if_pos c5] at hK
  repeat' (first | (with_reducible refine G.joini0 ?_) | (with_reducible refine G.joini1 ?_) | (with_reducible refine G.drew ?_) | (simp (maxSteps:=2000000) only [↓RG,RP,RB,BEq.rfl,Int.reduceEq,Int.reduceLT,Int.reduceLE,Nat.reduceEqDiff,jJ,c1,c2,c3,c4,eq_true c5]))
  refine ba b vp op (rb x (m8 i.a) (IntKind.wrap .u64 (x.r.get (m8 i.b)*x.r.get (m8 i.c)))) rfl h ?_
  exact hK.sub
 rw [if_neg c5] at hK
 by_cases c6:i.op=6
 ·rw [if_pos c6] at hK
  repeat' (first | (with_reducible refine G.joini0 ?_) | (with_reducible refine G.joini1 ?_) | (with_reducible refine G.drew ?_) | (simp (maxSteps:=2000000) only [↓RG,RP,RB,BEq.rfl,Int.reduceEq,Int.reduceLT,Int.reduceLE,Nat.reduceEqDiff,jJ,c1,c2,c3,c4,c5,eq_true c6]))
  refine vO ?_
  repeat' (first | (with_reducible refine G.joini0 ?_) | (with_reducible refine G.joini1 ?_) | (with_reducible refine G.drew ?_) | (simp (maxSteps:=2000000) only [↓RG,RP,RB,BEq.rfl,Int.reduceEq,Int.reduceLT,Int.reduceLE,Nat.reduceEqDiff]))
  refine ba b vp op (rb x (m8 i.a) (B3 (decide (x.r.get (m8 i.b)<x.r.get (m8 i.c))))) rfl h ?_
  exact hK.sub
 rw [if_neg c6] at hK
 by_cases c7:i.op=7
 ·rw [if_pos c7] at hK
  repeat' (first | (with_reducible refine G.joini0 ?_) | (with_reducible refine G.joini1 ?_) | (with_reducible refine G.drew ?_) | (simp (maxSteps:=2000000) only [↓RG,RP,RB,BEq.rfl,Int.reduceEq,Int.reduceLT,Int.reduceLE,Nat.reduceEqDiff,jJ,c1,c2,c3,c4,c5,c6,eq_true c7]))
  refine vO ?_
  repeat' (first | (with_reducible refine G.joini0 ?_) | (with_reducible refine G.joini1 ?_) | (with_reducible refine G.drew ?_) | (simp (maxSteps:=2000000) only [↓RG,RP,RB,BEq.rfl,Int.reduceEq,Int.reduceLT,Int.reduceLE,Nat.reduceEqDiff]))
  refine ba b vp op (rb x (m8 i.a) (B3 (decide (x.r.get (m8 i.b)=x.r.get (m8 i.c))))) rfl h ?_
  exact hK.sub
 rw [if_neg c7] at hK
 by_cases c12:i.op=12
 ·rw [if_pos c12] at hK
  repeat' (first | (with_reducible refine G.joini0 ?_) | (with_reducible refine G.joini1 ?_) | (with_reducible refine G.drew ?_) | (simp (maxSteps:=2000000) only [↓RG,RP,RB,BEq.rfl,Int.reduceEq,Int.reduceLT,Int.reduceLE,Nat.reduceEqDiff,jJ,c1,c2,c3,c4,c5,c6,c7,eq_true c12]))
  refine ba b vp op { x with next:=i.c } rfl h ?_
  exact hK.sub
 rw [if_neg c12] at hK
 by_cases c13:i.op=13
 ·rw [if_pos c13] at hK
  by_cases z:x.r.get (m8 i.a)=0
  ·rw [if_pos z] at hK
   repeat' (first | (with_reducible refine G.joini0 ?_) | (with_reducible refine G.joini1 ?_) | (with_reducible refine G.drew ?_) | (simp (maxSteps:=2000000) only [↓RG,RP,RB,BEq.rfl,Int.reduceEq,Int.reduceLT,Int.reduceLE,Nat.reduceEqDiff,jJ,c1,c2,c3,c4,c5,c6,c7,c12,eq_true c13,eq_true z]))
   refine ba b vp op { x with next:=i.c } rfl h ?_
   exact hK.sub
  ·rw [if_neg z] at hK
   repeat' (first | (with_reducible refine G.joini0 ?_) | (with_reducible refine G.joini1 ?_) | (with_reducible refine G.drew ?_) | (simp (maxSteps:=2000000) only [↓RG,RP,RB,BEq.rfl,Int.reduceEq,Int.reduceLT,Int.reduceLE,Nat.reduceEqDiff,jJ,c1,c2,c3,c4,c5,c6,c7,c12,eq_true c13,z]))
   refine ba b vp op x rfl h ?_
   exact hK.sub
 rw [if_neg c13] at hK
 by_cases c21:i.op=21
 ·rw [if_pos c21] at hK
  repeat' (first | (with_reducible refine G.joini0 ?_) | (with_reducible refine G.joini1 ?_) | (with_reducible refine G.drew ?_) | (simp (maxSteps:=2000000) only [↓RG,RP,RB,BEq.rfl,Int.reduceEq,Int.reduceLT,Int.reduceLE,Nat.reduceEqDiff,jJ,c1,c2,c3,c4,c5,c6,c7,c12,c13,eq_true c21]))
  refine FJ (xs:=x.items) ho.few ?_
  by_cases z:x.items.length<16
  ·rw [if_pos z] at hK
   rw [if_pos z,decide_eq_true z]
   repeat' (first | (with_reducible refine G.joini0 ?_) | (with_reducible refine G.joini1 ?_) | (with_reducible refine G.drew ?_) | (simp (maxSteps:=2000000) only [↓RG,RP,RB,BEq.rfl,Int.reduceEq,Int.reduceLT,Int.reduceLE,Nat.reduceEqDiff]))
   refine ba b vp op { x with items:=x.items++[x.r.get (m8 i.a)] } rfl h ?_
   exact hK.sub
  ·rw [if_neg z] at hK
   rw [if_neg z,decide_eq_false z]
   repeat' (first | (with_reducible refine G.joini0 ?_) | (with_reducible refine G.joini1 ?_) | (with_reducible refine G.drew ?_) | (simp (maxSteps:=2000000) only [↓RG,RP,RB,BEq.rfl,Int.reduceEq,Int.reduceLT,Int.reduceLE,Nat.reduceEqDiff]))
   refine ba b vp op x rfl h ?_
   exact hK.sub
 rw [if_neg c21] at hK
 by_cases c22:i.op=22
 ·rw [if_pos c22] at hK
  repeat' (first | (with_reducible refine G.joini0 ?_) | (with_reducible refine G.joini1 ?_) | (with_reducible refine G.drew ?_) | (simp (maxSteps:=2000000) only [↓RG,RP,RB,BEq.rfl,Int.reduceEq,Int.reduceLT,Int.reduceLE,Nat.reduceEqDiff,jJ,c1,c2,c3,c4,c5,c6,c7,c12,c13,c21,eq_true c22]))
  refine ba b vp op x rfl h ?_
  exact hK.sub
 rw [if_neg c22] at hK
 by_cases c89:i.op=8∨i.op=9∨i.op=10∨i.op=11
 ·rw [if_pos c89] at hK
  have hfin:G w0 (own b (x.cells vl vm vo vp op)::sl dt vl x.prog::sl bg vm x.mt::sl zg vo x.op.reverse::ob hZ op x.items::own q [i64 i.op,i64 i.a,i64 i.b,i64 i.c,u64 i.n]::ob br vp s::M) (CP Tryz.prog V7 [ptr b 0,.agg #[i64 i.op,i64 i.a,i64 i.b,i64 i.c,u64 i.n],ptr b (6+m8 i.a),u64 (x.r.get (m8 i.b))] (fun x84=>K x84)):=by
   refine ba b vp op x rfl h ?_
   refine G.pickAll (As:=[ob eN (b,vp) x,ob br vp s]) ?_
   simp only [List.cons_append,List.nil_append]
   refine D8 (x:=x) (s:=s) ho c89 ?_
   exact hK.sub
  rcases c89 with c8 | c9 | c10 | c11
  ·repeat' (first | (with_reducible refine G.joini0 ?_) | (with_reducible refine G.joini1 ?_) | (with_reducible refine G.drew ?_) | (simp (maxSteps:=2000000) only [↓RG,RP,RB,BEq.rfl,Int.reduceEq,Int.reduceLT,Int.reduceLE,Nat.reduceEqDiff,jJ,c1,c2,c3,c4,c5,c6,c7,c12,c13,c21,c22,o23,eq_true c8]))
   exact hfin
  ·have c8:¬i.op=8:=by omega
   repeat' (first | (with_reducible refine G.joini0 ?_) | (with_reducible refine G.joini1 ?_) | (with_reducible refine G.drew ?_) | (simp (maxSteps:=2000000) only [↓RG,RP,RB,BEq.rfl,Int.reduceEq,Int.reduceLT,Int.reduceLE,Nat.reduceEqDiff,jJ,c1,c2,c3,c4,c5,c6,c7,c12,c13,c21,c22,o23,c8,eq_true c9]))
   exact hfin
  ·have c8:¬i.op=8:=by omega
   have c9:¬i.op=9:=by omega
   repeat' (first | (with_reducible refine G.joini0 ?_) | (with_reducible refine G.joini1 ?_) | (with_reducible refine G.drew ?_) | (simp (maxSteps:=2000000) only [↓RG,RP,RB,BEq.rfl,Int.reduceEq,Int.reduceLT,Int.reduceLE,Nat.reduceEqDiff,jJ,c1,c2,c3,c4,c5,c6,c7,c12,c13,c21,c22,o23,c8,c9,eq_true c10]))
   exact hfin
  ·have c8:¬i.op=8:=by omega
   have c9:¬i.op=9:=by omega
   have c10:¬i.op=10:=by omega
   repeat' (first | (with_reducible refine G.joini0 ?_) | (with_reducible refine G.joini1 ?_) | (with_reducible refine G.drew ?_) | (simp (maxSteps:=2000000) only [↓RG,RP,RB,BEq.rfl,Int.reduceEq,Int.reduceLT,Int.reduceLE,Nat.reduceEqDiff,jJ,c1,c2,c3,c4,c5,c6,c7,c12,c13,c21,c22,o23,c8,c9,c10,eq_true c11]))
   exact hfin
 rw [if_neg c89] at hK
 have c8:¬i.op=8:=fun g=>c89 (.inl g)
 have c9:¬i.op=9:=fun g=>c89 (.inr (.inl g))
 have o10:¬i.op=10:=fun g=>c89 (.inr (.inr (.inl g)))
 have o11:¬i.op=11:=fun g=>c89 (.inr (.inr (.inr g)))
 repeat' (first | (with_reducible refine G.joini0 ?_) | (with_reducible refine G.joini1 ?_) | (with_reducible refine G.drew ?_) | (simp (maxSteps:=2000000) only [↓RG,RP,RB,BEq.rfl,Int.reduceEq,Int.reduceLT,Int.reduceLE,Nat.reduceEqDiff,jJ,c1,c2,c3,c4,c5,c6,c7,c12,c13,c21,c22,o23,c8,c9,o10,o11]))
 refine ba b vp op x rfl h ?_
 refine G.pickAll (As:=[ob eN (b,vp) x,ob br vp s]) ?_
 simp only [List.cons_append,List.nil_append]
 refine GD (x:=x) (s:=s) ho.turn ?_
 exact hK.sub
abbrev fm.ins (x:fm):bu:=x.prog.getD x.pos.toNat ⟨0,0,0,0,0⟩
abbrev fm.on (x:fm):fm:={ x with pos:=x.next,left:=x.left-1 }
abbrev fm.failed (x:fm)(e:Int):fm:={ x with fin:=4,err:=e }
def gH (x:fm)(s:fR):fm×fR×Int:=QY { x with next:=x.pos+1 } s x.ins
def jp:Nat→fm→fR→fm×fR×Int
 | 0,x,s=>(x,s,x.fin)
 | n+1,x,s =>
  if x.fin≠0 then (x,s,x.fin)
  else if x.bad≠0 then (x.failed x.bad,s,4)
  else if x.pos=x.prog.length then ({ x with fin:=2 },s,2)
  else if x.left=0 then (x.failed 6,s,4)
  else if (gH x s).2.2=0 then jp n (gH x s).1.on (gH x s).2.1
  else if (gH x s).2.2=11 then ((gH x s).1,(gH x s).2.1,1)
  else ((gH x s).1.failed (gH x s).2.2,(gH x s).2.1,4)
structure PE (x:fm)(s:fR):Prop where
 len:x.prog.length≤100000
 lo:0≤x.pos
 hi:x.pos<x.prog.length
 do_:TE { x with next:=x.pos+1 } s x.ins
 left:0≤(gH x s).1.left∧(gH x s).1.left≤1000
def wD:Nat→fm→fR→Prop
 | 0,x,s=>x.fin≠0
 | n+1,x,s=>x.fin≠0∨x.bad≠0∨x.pos=x.prog.length∨x.left=0∨(PE x s∧((gH x s).2.2=0→wD n (gH x s).1.on (gH x s).2.1))
theorem EZ {n:Nat}(h:x.fin≠0):jp n x s=(x,s,x.fin):=by cases n <;> simp [jp,h]
theorem HB {n:Nat}(h:x.fin≠0):wD n x s:=by cases n;exact h;exact .inl h
theorem Is {n:Nat}(ho:wD n x s)(hK:G w0 (ob eN (b,vp) (jp n x s).1::ob br vp (jp n x s).2.1::M) (K (i64 (jp n x s).2.2))) :
  G w0 (ob eN (b,vp) x::ob br vp s::M) (CP Tryz.prog Xi [ptr b 0] K):=by
 refine yA ?_
 unfold pC
 refine G.loop0 (σ:=Nat×fm×fR) (fun z=>ob eN (b,vp) z.2.1::ob br vp z.2.2::M) (fun z=>wD z.1 z.2.1 z.2.2∧jp z.1 z.2.1 z.2.2=jp n x s) (fun z=>z.1) (n,x,s) rfl ⟨ho,rfl⟩ ?_
 rintro⟨k,y,t⟩ ⟨hk,he⟩ J hJ
 simp only at hk he hJ ⊢
 rw [←he] at hK
 by_cases f:y.fin=0
 ·cases k with
  | zero=>exact absurd f hk
  | succ k =>
   have hend:∀(z:fm) (t':fR),z.fin≠0→jp (k+1) y t=(z,t',z.fin)→G w0 (ob eN (b,vp) z::ob br vp t'::M) J:=fun z t' hz e =>
    hJ (k,z,t') ⟨HB hz,by rw [EZ hz,←he,e]⟩ (by simp)
   rw [dd]
   intro vl vm vo op h
   by_cases c1:y.bad=0
   ·by_cases c2:y.pos=y.prog.length
    ·repeat' (first | (with_reducible refine G.joini0 ?_) | (with_reducible refine G.joini1 ?_) | (with_reducible refine G.drew ?_) | (simp (maxSteps:=2000000) only [↓RG,RP,RB,BEq.rfl,Int.reduceEq,Int.reduceLT,Int.reduceLE,Nat.reduceEqDiff,eq_true f,eq_true c1,eq_true c2]))
     refine ba b vp op { y with fin:=2 } rfl h ?_
     exact(hend { y with fin:=2 } t (show (2:Int)≠0 by decide) (by simp [jp,f,c1,c2])).sub
    ·by_cases c3:y.left=0
     ·repeat' (first | (with_reducible refine G.joini0 ?_) | (with_reducible refine G.joini1 ?_) | (with_reducible refine G.drew ?_) | (simp (maxSteps:=2000000) only [↓RG,RP,RB,BEq.rfl,Int.reduceEq,Int.reduceLT,Int.reduceLE,Nat.reduceEqDiff,eq_true f,eq_true c1,c2,eq_true c3]))
      refine ba b vp op y rfl h ?_
      refine sc (vp:=vp) (x:=y) ?_
      repeat' (first | (with_reducible refine G.joini0 ?_) | (with_reducible refine G.joini1 ?_) | (with_reducible refine G.drew ?_) | (simp (maxSteps:=2000000) only [↓RG,RP,RB,BEq.rfl,Int.reduceEq,Int.reduceLT,Int.reduceLE,Nat.reduceEqDiff]))
      exact(hend { y with fin:=4,err:=6 } t (show (4:Int)≠0 by decide) (by simp [jp,f,c1,c2,c3])).sub
     ·rcases hk with g | g | g | g | ⟨⟨k1,k2,k3,k4,k5,k6⟩,k7⟩
      ·exact absurd f g
      ·exact absurd c1 g
      ·exact absurd g c2
      ·exact absurd g c3
      have er:jp (k+1) y t=if (gH y t).2.2=0 then jp k (gH y t).1.on (gH y t).2.1 else if (gH y t).2.2=11 then ((gH y t).1,(gH y t).2.1,1) else ((gH y t).1.failed (gH y t).2.2,(gH y t).2.1,4):=by
       rw [jp,if_neg (fun g=>g f),if_neg (fun g=>g c1),if_neg c2,if_neg c3]
      have hin:y.prog[y.pos.toNat]? = some y.ins:=by
       have:y.pos.toNat<y.prog.length:=by omega
       show _=some (y.prog.getD y.pos.toNat ⟨0,0,0,0,0⟩)
       rw [List.getD_eq_getElem?_getD,List.getElem?_eq_getElem this];rfl
      have e:eU y.prog y.pos.toNat y.ins:=⟨hin⟩
      have ix:ij y.pos y.pos.toNat:=⟨by omega⟩
      have ew:IntKind.wrap .i64 (y.pos+1)=y.pos+1:=iy (by omega) (by omega)
      repeat' (first | (with_reducible refine G.joini0 ?_) | (with_reducible refine G.joini1 ?_) | (with_reducible refine G.drew ?_) | (simp (maxSteps:=2000000) only [↓RG,RP,RB,BEq.rfl,Int.reduceEq,Int.reduceLT,Int.reduceLE,Nat.reduceEqDiff,eq_true f,eq_true c1,c2,c3,ew]))
      refine ba b vp op { y with next:=y.pos+1 } rfl h ?_
      refine G.pickAll (As:=[ob eN (b,vp) { y with next:=y.pos+1 },ob br vp t]) ?_
      simp only [List.cons_append,List.nil_append]
      refine JR (x:={ y with next:=y.pos+1 }) (s:=t) (i:=y.ins) k4 ?_
      rw [show QY { y with next:=y.pos+1 } t y.ins=gH y t from rfl]
      generalize gH y t=d at er k5 k6 k7
      obtain⟨z,t2,q⟩:=d
      simp only at er k5 k6 k7 ⊢
      by_cases c4:q=0
      ·rw [if_pos c4] at er
       have el:IntKind.wrap .i64 (z.left-1)=z.left-1:=iy (by omega) (by omega)
       rw [dd]
       intro vl vm vo op h
       repeat' (first | (with_reducible refine G.joini0 ?_) | (with_reducible refine G.joini1 ?_) | (with_reducible refine G.drew ?_) | (simp (maxSteps:=2000000) only [↓RG,RP,RB,BEq.rfl,Int.reduceEq,Int.reduceLT,Int.reduceLE,Nat.reduceEqDiff,eq_true c4,el]))
       refine ba b vp op { z with pos:=z.next,left:=z.left-1 } rfl h ?_
       exact(hJ (k,{ z with pos:=z.next,left:=z.left-1 },t2) ⟨k7 c4,by rw [←he,er]⟩ (by simp)).sub
      ·rw [if_neg c4] at er
       by_cases c5:q=11
       ·rw [if_pos c5] at er
        rw [er] at hK
        refine gf (an c4 (eq_true c5)) ?_
        exact hK.sub
       ·rw [if_neg c5] at er
        refine gf (an c4 c5) ?_
        refine sc (vp:=vp) (x:=z) ?_
        repeat' (first | (with_reducible refine G.joini0 ?_) | (with_reducible refine G.joini1 ?_) | (with_reducible refine G.drew ?_) | (simp (maxSteps:=2000000) only [↓RG,RP,RB,BEq.rfl,Int.reduceEq,Int.reduceLT,Int.reduceLE,Nat.reduceEqDiff]))
        exact(hend { z with fin:=4,err:=q } t2 (show (4:Int)≠0 by decide) er).sub
   ·repeat' (first | (with_reducible refine G.joini0 ?_) | (with_reducible refine G.joini1 ?_) | (with_reducible refine G.drew ?_) | (simp (maxSteps:=2000000) only [↓RG,RP,RB,BEq.rfl,Int.reduceEq,Int.reduceLT,Int.reduceLE,Nat.reduceEqDiff,eq_true f,c1]))
    refine ba b vp op y rfl h ?_
    refine sc (vp:=vp) (x:=y) ?_
    repeat' (first | (with_reducible refine G.joini0 ?_) | (with_reducible refine G.joini1 ?_) | (with_reducible refine G.drew ?_) | (simp (maxSteps:=2000000) only [↓RG,RP,RB,BEq.rfl,Int.reduceEq,Int.reduceLT,Int.reduceLE,Nat.reduceEqDiff]))
    exact(hend { y with fin:=4,err:=y.bad } t (show (4:Int)≠0 by decide) (by simp [jp,f,c1])).sub
 ·rw [EZ f] at hK
  rw [dd] at hK ⊢
  intro vl vm vo op h
  have hK:=hK vl vm vo op h
  refine gf f ?_
  exact hK
end
end Go.Proofs.YtoealglbimbbmaaGreatDoor.S
