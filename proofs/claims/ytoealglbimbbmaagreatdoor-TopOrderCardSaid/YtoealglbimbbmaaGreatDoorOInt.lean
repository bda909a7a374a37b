import Derived.Test.YtoealglbimbbmaaGreatDoorGChk
import Derived.Test.YtoealglbimbbmaaGreatDoorView
import Derived.Test.YtoealglbimbbmaaGreatDoorArena
import Derived.Test.YtoealglbimbbmaaGreatDoorArr
namespace Go.Proofs.YtoealglbimbbmaaGreatDoor.S
open Go Go.Proofs
set_option linter.unusedVariables false
set_option linter.unusedSimpArgs false
structure yv where
 r0:Int
 r1:Int
 r2:Int
 r3:Int
 r4:Int
 r5:Int
 r6:Int
 r7:Int
 deriving DecidableEq
def yv.get (r:yv):Nat→Int
 | 0=>r.r0 | 1=>r.r1 | 2=>r.r2 | 3=>r.r3 | 4=>r.r4 | 5=>r.r5 | 6=>r.r6 | _=>r.r7
def yv.set (r:yv)(k:Nat)(x:Int):yv:=match k with
 | 0=>{ r with r0:=x } | 1=>{ r with r1:=x } | 2=>{ r with r2:=x } | 3=>{ r with r3:=x } | 4=>{ r with r4:=x } | 5=>{ r with r5:=x } | 6=>{ r with r6:=x } | _=>{ r with r7:=x }
abbrev yv.cells (r:yv):List Value:=[u64 r.r0,u64 r.r1,u64 r.r2,u64 r.r3,u64 r.r4,u64 r.r5,u64 r.r6,u64 r.r7]
structure jX where
 op:Int
 at_:Int
 regs:yv
 told:Int
 deriving DecidableEq
abbrev jX.cells (a:jX):List Value:=[i64 a.op,i64 a.at_,u64 a.regs.r0,u64 a.regs.r1,u64 a.regs.r2,u64 a.regs.r3,u64 a.regs.r4,u64 a.regs.r5,u64 a.regs.r6,u64 a.regs.r7,i64 a.told]
abbrev yD:jY jX:=⟨11,jX.cells,fun | [.int .i64 x0,.int .i64 x1,.int .u64 x2,.int .u64 x3,.int .u64 x4,.int .u64 x5,.int .u64 x6,.int .u64 x7,.int .u64 x8,.int .u64 x9,.int .i64 x10]=>some ⟨x0,x1,⟨x2,x3,x4,x5,x6,x7,x8,x9⟩,x10⟩ | _=>none,by decide,fun _=>rfl,by simp [one],fun cs a h=>by split at h <;> cases h;rfl⟩
instance {a:jX}:fx yD a (jX.cells a):=⟨rfl⟩
structure fm where
 prog:List bu
 mt:List Int
 bad:Int
 err:Int
 fin:Int
 r:yv
 items:List Int
 pos:Int
 next:Int
 left:Int
 op:List jX
abbrev fm.cells (x:fm)(vl vm vo:Value)(vp op:Nat):List Value:=[vl,ptr vp 0,vm,i64 x.bad,i64 x.err,i64 x.fin,u64 x.r.r0,u64 x.r.r1,u64 x.r.r2,u64 x.r.r3,u64 x.r.r4,u64 x.r.r5,u64 x.r.r6,u64 x.r.r7,ptr op 0,i64 x.pos,i64 x.next,i64 x.left,vo]
def eM (k:Nat×Nat)(x:fm):ay:=m3 fun vl=>m3 fun vm=>m3 fun vo=>m3 fun op=>bk (ic (ar vl [vl]∧ar vm [vm]∧ar vo [vo])) (bk (bk (bk (bk (own k.1 (x.cells vl vm vo k.2 op)) (sl du vl x.prog)) (sl bg vm x.mt)) (sl yD vo x.op.reverse)) (ob ib op x.items))
section
variable {w0:bh}{L M:List ay}{K:KV}{F:World→Prop}{C:ay→List ay}{b vp op:Nat}{x:fm}{s:fT}{v vl vm vo:Value}
theorem dc:G w0 (ob eM (b,vp) x::M) F=∀vl vm vo op,(ar vl [vl]∧ar vm [vm]∧ar vo [vo])→G w0 (own b (x.cells vl vm vo vp op)::sl du vl x.prog::sl bg vm x.mt::sl yD vo x.op.reverse::ob ib op x.items::M) F:=by
 rw [eZ,eM]
 simp only [qr,fb,fU]
theorem ba {vl vm vo:Value}(b vp op:Nat)(x:fm){ps:List jX} [ez [own b (x.cells vl vm vo vp op),sl du vl x.prog,sl bg vm x.mt,sl yD vo ps,ob ib op x.items] L M](hp:ps=x.op.reverse)(h:ar vl [vl]∧ar vm [vm]∧ar vo [vo])(H:G w0 (ob eM (b,vp) x::M) F):G w0 L F :=
 G.pickAll (As:=[own b (x.cells vl vm vo vp op),sl du vl x.prog,sl bg vm x.mt,sl yD vo ps,ob ib op x.items]) (by rw [dc] at H;rw [hp];exact H vl vm vo op h)
abbrev Bf (p:List bu)(fuel:Int):fm:=⟨p,nA p,zK p,0,0,⟨0,0,0,0,0,0,0,0⟩,[],0,0,held fuel 0 400,[]⟩
theorem Je {p:List bu}{fuel:Int}[r:Rd w0 L v du 5 p](hv:ar v [v])(hl:p.length≤1000000)(hK:∀b,G w0 (ob eM (b,vp) (Bf p fuel)::L) (K (ptr b 0))):G w0 L (CP Tryz.prog Fn.interp_New [.agg #[v],ptr vp 0,i64 fuel] K):=by
 refine HU ?_
 unfold Bm
 refine G.box fun q=>?_
 refine gr ?_
 refine G.nilsl du ?_
 refine G.append (E:=du) (xs:=[]) (ys:=p) (by simp;omega) (by simp [maxLen];omega) fun u hu=>?_
 simp only [List.nil_append]
 refine gr ?_
 refine Dt hu hl fun a=>?_
 repeat' (first | (with_reducible refine G.joini0 ?_) | (with_reducible refine G.joini1 ?_) | (with_reducible refine G.drew ?_) | (simp (maxSteps:=2000000) only [↓RG,RP,RB,BEq.rfl,Int.reduceEq,Int.reduceLT,Int.reduceLE,Nat.reduceEqDiff]))
 refine Gy hu hl fun u2 hu2=>?_
 refine gg ?_
 refine JS fun op=>?_
 refine gg ?_
 refine G.box fun b=>?_
 have e:(if (if (400:Int)<fuel then 400 else fuel) > 0 then if (400:Int)<fuel then 400 else fuel else 0)=held fuel 0 400:=by unfold held;split <;> split <;> split <;> (try split) <;> omega
 refine eY e ?_
 refine G.nilsl yD ?_
 refine ba (vo:=.slice none 0 0) (ps:=[]) b vp op (Bf p fuel) rfl ⟨hu,hu2,be⟩ ?_
 exact(hK b).sub
theorem Jj [i:aq L eM (b,vp) x C](hK:G w0 L (K (i64 x.err))):G w0 L (CP Tryz.prog Fn.interp_Interp_Err [ptr b 0] K):=by
 refine i.ro (fun M hK=>?_) hK
 refine yn ?_
 unfold pp
 rw [dc] at *
 intro vl vm vo op h
 have hK:=hK vl vm vo op h
 refine gr ?_
 exact hK
theorem FM (hl:x.items.length≤1000000)[i:aq L eM (b,vp) x C](hK:∀c,G w0 (ob ib c x.items::L) (K (ptr c 0))):G w0 L (CP Tryz.prog Fn.interp_Interp_Slate [ptr b 0] K):=by
 refine i.roN (P:=fun _=>True) (N:=fun c=>ob ib c x.items) (F':=fun c=>K (ptr c 0)) (fun M hK=>?_) (fun c _=>hK c)
 refine vg ?_
 unfold mZ
 rw [dc]
 intro vl vm vo op h
 refine gr ?_
 refine Aj (xs:=x.items) hl fun c=>?_
 refine ba b vp op x rfl h ?_
 exact(hK c trivial).sub
theorem rU {e:Int}[i:aq L eM (b,vp) x C](hK:G w0 (C (ob eM (b,vp) { x with fin:=4,err:=e })) (K (.tuple #[]))):G w0 L (CP Tryz.prog Fn.interp_Interp_fail [ptr b 0,i64 e] K):=by
 refine i.use (fun M hK=>?_) hK
 refine wm ?_
 unfold oN
 rw [dc] at *
 intro vl vm vo op h
 have hK:=hK vl vm vo op h
 refine gr ?_
 exact hK
theorem KI {xs:List Int}[i:aq L ib b xs C](hK:G w0 L (K (i64 xs.length))):G w0 L (CP Tryz.prog Fn.slate_Slate_Len [ptr b 0] K):=by
 refine i.ro (fun M hK=>?_) hK
 refine BS ?_
 unfold rJ
 rw [eJ] at *
 intro v hv
 have hK:=hK v hv
 refine gr ?_
 exact hK
theorem JG {xs:List Int}{k:Nat}(hk:k≤xs.length)(hl:xs.length≤1000000)[i:aq L ib b xs C](hK:G w0 (C (ob ib b (xs.take k))) (K (.tuple #[]))):G w0 L (CP Tryz.prog Fn.slate_Slate_Cut [ptr b 0,i64 k] K):=by
 refine i.use (fun M hK=>?_) hK
 refine BT ?_
 unfold rA
 rw [eJ]
 intro v hv
 have e1:(if (xs.length:Int)<k then (xs.length:Int) else k)=k:=by rw [if_neg (by omega)]
 have e2:(if (k:Int) > 0 then (k:Int) else 0)=k:=by split <;> omega
 repeat' (first | (with_reducible refine G.joini0 ?_) | (with_reducible refine G.joini1 ?_) | (with_reducible refine G.drew ?_) | (simp (maxSteps:=2000000) only [↓RG,RP,RB,BEq.rfl,Int.reduceEq,Int.reduceLT,Int.reduceLE,Nat.reduceEqDiff,e1,e2]))
 refine G.take (m:=k) hk fun u hu=>?_
 refine lV (xs:=xs.take k) (by simp only [List.length_take];omega) fun u2 hu2=>?_
 refine gg ?_
 rw [eJ] at hK
 exact(hK u2 hu2).sub
theorem F4 {xs:List Int}{n:Int}[i:aq L ib b xs C](hl:xs.length≤16)(hK:G w0 (C (ob ib b (if xs.length<16 then xs++[n] else xs))) (K (.bool (decide (xs.length<16))))):G w0 L (CP Tryz.prog Fn.slate_Slate_AddNum [ptr b 0,u64 n] K):=by
 by_cases h:xs.length<16
 ·rw [if_pos h,decide_eq_true h] at hK
  exact w5 h hK
 ·rw [if_neg h,decide_eq_false h] at hK
  refine i.use (fun M hK=>?_) hK
  refine oC ?_
  unfold js
  refine gr ?_
  refine ru ?_
  unfold lI
  rw [eJ] at *
  intro v hv
  have hK:=hK v hv
  have h16:(16:Int)≤xs.length:=by omega
  refine eY h16 ?_
  exact hK
abbrev iY (x:fm)(s:fT)(op_ at_:Int):fm×fT×Int:=if (mg s.l).2=0 then ({ x with op:=⟨op_,at_,x.r,x.items.length⟩::x.op },s.log (mg s.l).1,0) else (x,s.log (mg s.l).1,(mg s.l).2)
theorem wZ {o a:Int}(hl:x.op.length≤1000)(hK:G w0 (ob eM (b,vp) (iY x s o a).1::ob br vp (iY x s o a).2.1::M) (K (i64 (iY x s o a).2.2))) :
  G w0 (ob eM (b,vp) x::ob br vp s::M) (CP Tryz.prog Fn.interp_Interp_begin [ptr b 0,i64 o,i64 a] K):=by
 refine vB ?_
 unfold mN
 rw [dc]
 intro vl vm vo op h
 unfold iY at hK
 refine gg ?_
 refine Kr (s:=s) ?_
 by_cases c:(mg s.l).2=0
 ·simp only [if_pos c] at hK
  repeat' (first | (with_reducible refine G.joini0 ?_) | (with_reducible refine G.joini1 ?_) | (with_reducible refine G.drew ?_) | (simp (maxSteps:=2000000) only [↓RG,RP,RB,BEq.rfl,Int.reduceEq,Int.reduceLT,Int.reduceLE,Nat.reduceEqDiff,c]))
  refine KI (xs:=x.items) ?_
  refine gg ?_
  refine G.build yD [⟨o,a,x.r,x.items.length⟩] rfl (by decide) rfl fun y hy=>?_
  refine gg ?_
  refine G.append (E:=yD) (xs:=x.op.reverse) (ys:=[⟨o,a,x.r,x.items.length⟩]) (by simp only [List.length_reverse,List.length_singleton];omega) (by simp only [List.length_reverse,List.length_singleton,maxLen];omega) fun u5 h5=>?_
  refine gg ?_
  refine ba (vo:=u5) (ps:=x.op.reverse++[⟨o,a,x.r,x.items.length⟩]) b vp op { x with op:=⟨o,a,x.r,x.items.length⟩::x.op } (by simp) ⟨h.1,h.2.1,h5⟩ ?_
  exact hK.sub
 ·simp only [if_neg c] at hK
  refine gf c ?_
  refine ba b vp op x rfl h ?_
  exact hK.sub
theorem NI {α:Type}{a:α}{l:List α}:(a::l).reverse.take l.length=l.reverse:=by
 rw [List.reverse_cons,List.take_append_of_le_length (by simp)]
 exact List.take_of_length_le (by simp)
theorem ma {q:jX}{ps:List jX}(ho:x.op=q::ps)(hl:ps.length≤1000)(hK:G w0 (ob eM (b,vp) { x with op:=ps }::M) (K (.agg (jX.cells q).toArray))) :
  G w0 (ob eM (b,vp) x::M) (CP Tryz.prog Fn.interp_Interp_leave [ptr b 0] K):=by
 refine uQ ?_
 unfold mO
 refine G.new fun q1=>?_
 rw [fA,dc]
 intro vl vm vo op h
 rw [ho]
 have e1:IntKind.wrap .i64 ((((q::ps).reverse.length:Nat):Int)-1)=((ps.length:Nat):Int):=by
  simp only [List.length_reverse,List.length_cons]
  rw [iA (by omega) (by omega)];omega
 have e:eU (q::ps).reverse ps.length q:=⟨by rw [List.reverse_cons,List.getElem?_append_right (by simp)];simp⟩
 repeat' (first | (with_reducible refine G.joini0 ?_) | (with_reducible refine G.joini1 ?_) | (with_reducible refine G.drew ?_) | (simp (maxSteps:=2000000) only [↓RG,RP,RB,BEq.rfl,Int.reduceEq,Int.reduceLT,Int.reduceLE,Nat.reduceEqDiff,e1]))
 refine G.new fun q2=>?_
 repeat' (first | (with_reducible refine G.joini0 ?_) | (with_reducible refine G.joini1 ?_) | (with_reducible refine G.drew ?_) | (simp (maxSteps:=2000000) only [↓RG,RP,RB,BEq.rfl,Int.reduceEq,Int.reduceLT,Int.reduceLE,Nat.reduceEqDiff,e1]))
 refine G.take (m:=ps.length) (by simp) fun u hu=>?_
 rw [NI]
 refine gg ?_
 refine ba (vo:=u) (ps:=ps.reverse) b vp op { x with op:=ps } rfl ⟨h.1,h.2.1,hu⟩ ?_
 exact hK.sub
theorem za {q:jX}{k:Nat}(hq:q.told=k)(hk:k≤x.items.length)(hl:x.items.length≤1000000)[i:aq L eM (b,vp) x C](hK:G w0 (C (ob eM (b,vp) { x with r:=q.regs,items:=x.items.take k })) (K (.tuple #[]))) :
  G w0 L (CP Tryz.prog Fn.interp_Interp_back [ptr b 0,.agg (jX.cells q).toArray] K):=by
 refine i.use (fun M hK=>?_) hK
 refine xu ?_
 unfold oH
 refine G.box fun q1=>?_
 rw [fA,dc]
 intro vl vm vo op h
 repeat' (first | (with_reducible refine G.joini0 ?_) | (with_reducible refine G.joini1 ?_) | (with_reducible refine G.drew ?_) | (simp (maxSteps:=2000000) only [↓RG,RP,RB,BEq.rfl,Int.reduceEq,Int.reduceLT,Int.reduceLE,Nat.reduceEqDiff]))
 rw [hq]
 refine JG (xs:=x.items) hk hl ?_
 refine gg ?_
 refine ba b vp op { x with r:=q.regs,items:=x.items.take k } rfl h ?_
 exact hK.sub
def gO (x:fm)(s:fT):List jX→fm×fT×Int
 | []=>({ x with op:=[],next:=x.pos,fin:=3 },s,0)
 | q::ps=>if (fZ s.l).2=0 then
   (if q.op=17 then iY { x with op:=ps,r:=q.regs,items:=x.items.take q.told.toNat,next:=x.mt.getD q.at_.toNat 0+1 } (s.log (fZ s.l).1) 18 (x.mt.getD q.at_.toNat 0)
    else gO x (s.log (fZ s.l).1) ps)
  else ({ x with op:=ps },s.log (fZ s.l).1,(fZ s.l).2)
theorem Ep:gO x s []=({ x with op:=[],next:=x.pos,fin:=3 },s,0):=rfl
theorem vD {q:jX}{ps:List jX}:gO x s (q::ps)=if (fZ s.l).2=0 then
   (if q.op=17 then iY { x with op:=ps,r:=q.regs,items:=x.items.take q.told.toNat,next:=x.mt.getD q.at_.toNat 0+1 } (s.log (fZ s.l).1) 18 (x.mt.getD q.at_.toNat 0)
    else gO x (s.log (fZ s.l).1) ps)
  else ({ x with op:=ps },s.log (fZ s.l).1,(fZ s.l).2):=rfl
def Ji (x:fm)(l:List jX):Prop:=∀q∈l,0≤q.told∧q.told≤x.items.length∧0≤q.at_∧q.at_<x.mt.length
def Ti (l:List Int):Prop:=∀n∈l,-1≤n∧n≤1000
theorem Pj {l:List Int}(h:Ti l){k:Nat}(hk:k<l.length):eU l k (l.getD k 0)∧-1≤l.getD k 0∧l.getD k 0≤1000:=by
 have e:l[k]? = some l[k]:=List.getElem?_eq_getElem hk
 have e2:l.getD k 0=l[k]:=by rw [List.getD_eq_getElem?_getD,e];rfl
 rw [e2]
 exact⟨⟨e⟩,h _ (List.getElem_mem hk)⟩
theorem E3 (hl:x.op.length≤1000)(hi:x.items.length≤1000000)(hp:Ji x x.op)(hm:Ti x.mt)(hK:G w0 (ob eM (b,vp) (gO x s x.op).1::ob br vp (gO x s x.op).2.1::M) (K (i64 (gO x s x.op).2.2))) :
  G w0 (ob eM (b,vp) x::ob br vp s::M) (CP Tryz.prog Fn.interp_Interp_retry [ptr b 0] K):=by
 refine uE ?_
 unfold mE
 refine G.loop0 (σ:=List jX×fT) (fun z=>ob eM (b,vp) { x with op:=z.1 }::ob br vp z.2::M) (fun z=>z.1.length≤1000∧Ji x z.1∧gO x z.2 z.1=gO x s x.op) (fun z=>z.1.length) (x.op,s) rfl ⟨hl,hp,rfl⟩ ?_
 rintro⟨ps,t⟩ ⟨hpl,hpp,he⟩ J hJ
 simp only at hpl hpp he hJ ⊢
 rw [←he] at hK
 cases ps with
 | nil =>
  rw [dc]
  intro vl vm vo op h
  repeat' (first | (with_reducible refine G.joini0 ?_) | (with_reducible refine G.joini1 ?_) | (with_reducible refine G.drew ?_) | (simp (maxSteps:=2000000) only [↓RG,RP,RB,BEq.rfl,Int.reduceEq,Int.reduceLT,Int.reduceLE,Nat.reduceEqDiff,List.reverse_nil,List.length_nil,Int.cast_ofNat_Int]))
  rw [Ep] at hK
  refine ba (vo:=vo) (ps:=[]) b vp op { x with op:=[],next:=x.pos,fin:=3 } rfl h ?_
  exact hK.sub
 | cons q ps =>
  obtain⟨t0,t1,a0,a1⟩:=hpp q (by simp)
  simp only [List.length_cons] at hpl
  have hl1:((0:Int)<(((q::ps).reverse.length:Nat):Int))=True:=eq_true (by simp)
  rw [dc]
  intro vl vm vo op h
  refine gf hl1 ?_
  refine ba b vp op { x with op:=q::ps } rfl h ?_
  refine ma (x:={ x with op:=q::ps }) (q:=q) (ps:=ps) rfl (by omega) ?_
  refine gg ?_
  refine G.new fun q1=>?_
  refine G.take1 eM (b,vp) ?_
  rw [dc]
  intro vl vm vo op h
  refine gg ?_
  refine Ds (s:=t) ?_
  rw [vD] at hK he
  by_cases c:(fZ t.l).2=0
  ·rw [if_pos c] at hK he
   by_cases c2:q.op=17
   ·rw [if_pos c2] at hK
    obtain⟨g1,g2,g3⟩:=Pj hm (k:=q.at_.toNat) (by omega)
    have ix:ii q.at_ q.at_.toNat:=⟨by omega⟩
    have ew:IntKind.wrap .i64 (x.mt.getD q.at_.toNat 0+1)=x.mt.getD q.at_.toNat 0+1:=iA (by omega) (by omega)
    refine gf (an c (eq_true c2)) ?_
    refine ba b vp op { x with op:=ps } rfl h ?_
    refine za (vp:=vp) (x:={ x with op:=ps }) (q:=q) (k:=q.told.toNat) (by omega) (by simp only;omega) hi ?_
    refine G.take1 eM (b,vp) ?_
    rw [dc]
    intro vl vm vo op h
    repeat' (first | (with_reducible refine G.joini0 ?_) | (with_reducible refine G.joini1 ?_) | (with_reducible refine G.drew ?_) | (simp (maxSteps:=2000000) only [↓RG,RP,RB,BEq.rfl,Int.reduceEq,Int.reduceLT,Int.reduceLE,Nat.reduceEqDiff,ew]))
    refine ba b vp op { x with op:=ps,r:=q.regs,items:=x.items.take q.told.toNat,next:=x.mt.getD q.at_.toNat 0+1 } rfl h ?_
    refine G.pickAll (As:=[ob eM (b,vp) { x with op:=ps,r:=q.regs,items:=x.items.take q.told.toNat,next:=x.mt.getD q.at_.toNat 0+1 },ob br vp (t.log (fZ t.l).1)]) ?_
    simp only [List.cons_append,List.nil_append]
    refine wZ (x:={ x with op:=ps,r:=q.regs,items:=x.items.take q.told.toNat,next:=x.mt.getD q.at_.toNat 0+1 }) (s:=t.log (fZ t.l).1) (by simp only;omega) ?_
    repeat' (first | (with_reducible refine G.joini0 ?_) | (with_reducible refine G.joini1 ?_) | (with_reducible refine G.drew ?_) | (simp (maxSteps:=2000000) only [↓RG,RP,RB,BEq.rfl,Int.reduceEq,Int.reduceLT,Int.reduceLE,Nat.reduceEqDiff]))
    exact hK.sub
   ·rw [if_neg c2] at he
    refine gf (an c c2) ?_
    refine ba b vp op { x with op:=ps } rfl h ?_
    exact(hJ (ps,t.log (fZ t.l).1) ⟨by show ps.length≤1000;omega,fun z hz=>hpp z (List.mem_cons_of_mem _ hz),he⟩ (by simp)).sub
  ·rw [if_neg c] at hK
   refine gf c ?_
   refine ba b vp op { x with op:=ps } rfl h ?_
   exact hK.sub
def Bq (x:fm)(s:fT)(o:Int):fm×fT×Int :=
 if o=14∨o=17 then iY x s o x.pos
 else if o=15∨o=19 then ({ x with op:=x.op.tail },s.log (mG s.l).1,(mG s.l).2)
 else if o=18 then ({ x with op:=x.op.tail,next:=x.mt.getD x.pos.toNat 0+1 },s.log (mG s.l).1,(mG s.l).2)
 else if o=16 then ({ x with op:=x.op.tail,r:=(x.op.headD ⟨0,0,⟨0,0,0,0,0,0,0,0⟩,0⟩).regs,items:=x.items.take (x.op.headD ⟨0,0,⟨0,0,0,0,0,0,0,0⟩,0⟩).told.toNat,next:=x.mt.getD x.pos.toNat 0+1 },s.log (fZ s.l).1,(fZ s.l).2)
 else gO x s x.op
structure Pw (x:fm)(s:fT)(o:Int):Prop where
 len:x.op.length≤1000
 items:x.items.length≤1000000
 parts:Ji x x.op
 mt:Ti x.mt
 frees:s.l.frees.length≤1000000
 ne:(o=15∨o=16∨o=18∨o=19)→x.op≠[]
 pos:(o=16∨o=18)→0≤x.pos∧x.pos<x.mt.length
theorem GG {i:bu}(ho:Pw x s i.op)(hK:G w0 (ob eM (b,vp) (Bq x s i.op).1::ob br vp (Bq x s i.op).2.1::M) (K (i64 (Bq x s i.op).2.2))) :
  G w0 (ob eM (b,vp) x::ob br vp s::M) (CP Tryz.prog Fn.interp_Interp_turn [ptr b 0,.agg #[i64 i.op,i64 i.a,i64 i.b,i64 i.c,u64 i.n]] K):=by
 refine vE ?_
 unfold oS
 refine G.box fun q=>?_
 unfold Bq at hK
 by_cases h14:i.op=14∨i.op=17
 ·rw [if_pos h14] at hK
  refine G.take1 eM (b,vp) ?_
  rw [dc]
  intro vl vm vo op h
  have hfin:G w0 (own b (x.cells vl vm vo vp op)::sl du vl x.prog::sl bg vm x.mt::sl yD vo x.op.reverse::ob ib op x.items::own q [i64 i.op,i64 i.a,i64 i.b,i64 i.c,u64 i.n]::ob br vp s::M) (CP Tryz.prog Fn.interp_Interp_begin [ptr b 0,i64 i.op,i64 x.pos] (fun x11=>andP (andP ac (andP ac ac)) (K x11))):=by
   refine ba b vp op x rfl h ?_
   refine G.pickAll (As:=[ob eM (b,vp) x,ob br vp s]) ?_
   simp only [List.cons_append,List.nil_append]
   refine wZ (x:=x) (s:=s) ho.len ?_
   refine gg ?_
   exact hK.sub
  rcases h14 with h14 | h14
  ·repeat' (first | (with_reducible refine G.joini0 ?_) | (with_reducible refine G.joini1 ?_) | (with_reducible refine G.drew ?_) | (simp (maxSteps:=2000000) only [↓RG,RP,RB,BEq.rfl,Int.reduceEq,Int.reduceLT,Int.reduceLE,Nat.reduceEqDiff,eq_true h14]))
   exact hfin
  ·have c:¬i.op=14:=by omega
   repeat' (first | (with_reducible refine G.joini0 ?_) | (with_reducible refine G.joini1 ?_) | (with_reducible refine G.drew ?_) | (simp (maxSteps:=2000000) only [↓RG,RP,RB,BEq.rfl,Int.reduceEq,Int.reduceLT,Int.reduceLE,Nat.reduceEqDiff,c,eq_true h14]))
   exact hfin
 rw [if_neg h14] at hK
 have c14:¬i.op=14:=fun g=>h14 (.inl g)
 have c17:¬i.op=17:=fun g=>h14 (.inr g)
 have hleave:(i.op=15∨i.op=16∨i.op=18∨i.op=19)→∃p ps,x.op=p::ps∧x.op.tail=ps∧ps.length≤1000:=fun g=>by
  have:=ho.ne g
  have hl:=ho.len
  cases hx:x.op with
  | nil=>exact absurd hx this
  | cons p ps=>rw [hx] at hl;exact⟨p,ps,rfl,rfl,by simp at hl;omega⟩
 by_cases h15:i.op=15∨i.op=19
 ·rw [if_pos h15] at hK
  obtain⟨p,ps,e1,e2,e3⟩:=hleave (by omega)
  rw [e2] at hK
  have hfin:G w0 (own q [i64 i.op,i64 i.a,i64 i.b,i64 i.c,u64 i.n]::ob eM (b,vp) x::ob br vp s::M) (CP Tryz.prog Fn.interp_Interp_leave [ptr b 0] (fun x14=>ab (ptr b 1) (fun x17=>CP Tryz.prog Fn.view_View_Keep [x17] (fun x18=>K x18)))):=by
   refine G.pickAll (As:=[ob eM (b,vp) x]) ?_
   simp only [List.cons_append,List.nil_append]
   refine ma (x:=x) (q:=p) (ps:=ps) e1 e3 ?_
   rw [dc]
   intro vl vm vo op h
   refine gg ?_
   refine Dx (s:=s) ho.frees ?_
   refine ba b vp op { x with op:=ps } rfl h ?_
   exact hK.sub
  rcases h15 with h15 | h15
  ·repeat' (first | (with_reducible refine G.joini0 ?_) | (with_reducible refine G.joini1 ?_) | (with_reducible refine G.drew ?_) | (simp (maxSteps:=2000000) only [↓RG,RP,RB,BEq.rfl,Int.reduceEq,Int.reduceLT,Int.reduceLE,Nat.reduceEqDiff,c14,c17,eq_true h15]))
   exact hfin
  ·have c:¬i.op=15:=by omega
   repeat' (first | (with_reducible refine G.joini0 ?_) | (with_reducible refine G.joini1 ?_) | (with_reducible refine G.drew ?_) | (simp (maxSteps:=2000000) only [↓RG,RP,RB,BEq.rfl,Int.reduceEq,Int.reduceLT,Int.reduceLE,Nat.reduceEqDiff,c14,c17,c,eq_true h15]))
   exact hfin
 rw [if_neg h15] at hK
 have c15:¬i.op=15:=fun g=>h15 (.inl g)
 have c19:¬i.op=19:=fun g=>h15 (.inr g)
 by_cases h18:i.op=18
 ·rw [if_pos h18] at hK
  obtain⟨p,ps,e1,e2,e3⟩:=hleave (by omega)
  obtain⟨p0,p1⟩:=ho.pos (.inr h18)
  obtain⟨g1,g2,g3⟩:=Pj ho.mt (k:=x.pos.toNat) (by omega)
  have ix:ii x.pos x.pos.toNat:=⟨by omega⟩
  have ew:IntKind.wrap .i64 (x.mt.getD x.pos.toNat 0+1)=x.mt.getD x.pos.toNat 0+1:=iA (by omega) (by omega)
  rw [e2] at hK
  repeat' (first | (with_reducible refine G.joini0 ?_) | (with_reducible refine G.joini1 ?_) | (with_reducible refine G.drew ?_) | (simp (maxSteps:=2000000) only [↓RG,RP,RB,BEq.rfl,Int.reduceEq,Int.reduceLT,Int.reduceLE,Nat.reduceEqDiff,c14,c17,c15,c19,eq_true h18]))
  refine G.pickAll (As:=[ob eM (b,vp) x]) ?_
  simp only [List.cons_append,List.nil_append]
  refine ma (x:=x) (q:=p) (ps:=ps) e1 e3 ?_
  rw [dc]
  intro vl vm vo op h
  repeat' (first | (with_reducible refine G.joini0 ?_) | (with_reducible refine G.joini1 ?_) | (with_reducible refine G.drew ?_) | (simp (maxSteps:=2000000) only [↓RG,RP,RB,BEq.rfl,Int.reduceEq,Int.reduceLT,Int.reduceLE,Nat.reduceEqDiff,ew]))
  refine Dx (s:=s) ho.frees ?_
  refine ba b vp op { x with op:=ps,next:=x.mt.getD x.pos.toNat 0+1 } rfl h ?_
  exact hK.sub
 rw [if_neg h18] at hK
 by_cases h16:i.op=16
 ·rw [if_pos h16] at hK
  obtain⟨p,ps,e1,e2,e3⟩:=hleave (by omega)
  obtain⟨p0,p1⟩:=ho.pos (.inl h16)
  obtain⟨t0,t1,_,_⟩:=ho.parts p (by rw [e1];simp)
  obtain⟨g1,g2,g3⟩:=Pj ho.mt (k:=x.pos.toNat) (by omega)
  have ix:ii x.pos x.pos.toNat:=⟨by omega⟩
  have ew:IntKind.wrap .i64 (x.mt.getD x.pos.toNat 0+1)=x.mt.getD x.pos.toNat 0+1:=iA (by omega) (by omega)
  rw [e2,e1] at hK
  simp only [List.headD_cons] at hK
  repeat' (first | (with_reducible refine G.joini0 ?_) | (with_reducible refine G.joini1 ?_) | (with_reducible refine G.drew ?_) | (simp (maxSteps:=2000000) only [↓RG,RP,RB,BEq.rfl,Int.reduceEq,Int.reduceLT,Int.reduceLE,Nat.reduceEqDiff,c14,c17,c15,c19,h18,eq_true h16]))
  refine G.pickAll (As:=[ob eM (b,vp) x]) ?_
  simp only [List.cons_append,List.nil_append]
  refine ma (x:=x) (q:=p) (ps:=ps) e1 e3 ?_
  refine za (vp:=vp) (x:={ x with op:=ps }) (q:=p) (k:=p.told.toNat) (by omega) (by simp only;omega) ho.items ?_
  rw [dc]
  intro vl vm vo op h
  repeat' (first | (with_reducible refine G.joini0 ?_) | (with_reducible refine G.joini1 ?_) | (with_reducible refine G.drew ?_) | (simp (maxSteps:=2000000) only [↓RG,RP,RB,BEq.rfl,Int.reduceEq,Int.reduceLT,Int.reduceLE,Nat.reduceEqDiff,ew]))
  refine Ds (s:=s) ?_
  refine ba b vp op { x with op:=ps,r:=p.regs,items:=x.items.take p.told.toNat,next:=x.mt.getD x.pos.toNat 0+1 } rfl h ?_
  exact hK.sub
 rw [if_neg h16] at hK
 repeat' (first | (with_reducible refine G.joini0 ?_) | (with_reducible refine G.joini1 ?_) | (with_reducible refine G.drew ?_) | (simp (maxSteps:=2000000) only [↓RG,RP,RB,BEq.rfl,Int.reduceEq,Int.reduceLT,Int.reduceLE,Nat.reduceEqDiff,c14,c17,c15,c19,h18,h16]))
 refine G.pickAll (As:=[ob eM (b,vp) x,ob br vp s]) ?_
 simp only [List.cons_append,List.nil_append]
 refine E3 (x:=x) (s:=s) ho.len ho.items ho.parts ho.mt ?_
 exact hK.sub
abbrev m8 (n:Int):Nat:=(n.tmod 8).toNat
theorem MN {n:Int}(h:0≤n):m8 n<8∧n.tmod 8=(m8 n:Int):=by
 have h1:=Int.tmod_nonneg 8 h
 have h2:=Int.tmod_lt_of_pos n (show (0:Int)<8 by decide)
 unfold m8
 omega
theorem wi {k:Nat}(hk:k<8):Jp (x.cells vl vm vo vp op) (6+k) (u64 (x.r.get k)):=by
 match k,hk with
 | 0,_=>exact⟨rfl⟩
 | 1,_=>exact⟨rfl⟩
 | 2,_=>exact⟨rfl⟩
 | 3,_=>exact⟨rfl⟩
 | 4,_=>exact⟨rfl⟩
 | 5,_=>exact⟨rfl⟩
 | 6,_=>exact⟨rfl⟩
 | 7,_=>exact⟨rfl⟩
abbrev re (x:fm)(k:Nat)(y:Int):fm:={ x with r:=x.r.set k y }
theorem Ft {k:Nat}{y:Int}(hk:k<8):rH (x.cells vl vm vo vp op) (6+k) [u64 y] ((re x k y).cells vl vm vo vp op):=by
 match k,hk with
 | 0,_=>exact⟨rfl,by simp⟩
 | 1,_=>exact⟨rfl,by simp⟩
 | 2,_=>exact⟨rfl,by simp⟩
 | 3,_=>exact⟨rfl,by simp⟩
 | 4,_=>exact⟨rfl,by simp⟩
 | 5,_=>exact⟨rfl,by simp⟩
 | 6,_=>exact⟨rfl,by simp⟩
 | 7,_=>exact⟨rfl,by simp⟩
class Uq (k n:Nat):Prop where
 lt:k<n
theorem jy {o n k m:Nat}{kd:IntKind}{i:Int}[hi:ii i k][ha:yW o k m][hk:Uq k n]:G w0 L (nR n 1 (ptr b o) (.int kd i) K)=G w0 L (K (ptr b m)):=zJ fun w H=>by
 have h1:=hi.eq
 have h2:=ha.eq
 have h:=hk.lt
 subst h1 h2
 simp [nR,h]
abbrev QM (base off:Int):Int:=iE (iE base+off)
def gP (base off:Int):Int×Int:=if 2147483648≤base∨2147483648≤QM base off∨QM base off<6 then (0,2) else (QM base off,0)
theorem xx {base off:Int}(hK:G w0 L (K (.tuple #[i64 (gP base off).1,i64 (gP base off).2]))):G w0 L (CP Tryz.prog Fn.interp_place [u64 base,i64 off] K):=by
 refine FZ ?_
 unfold xC
 unfold gP at hK
 refine gu ?_
 by_cases c1:2147483648≤base
 ·rw [if_pos (.inl c1)] at hK
  refine eY c1 ?_
  exact hK
 ·by_cases c2:2147483648≤IntKind.wrap .i64 (IntKind.wrap .i64 base+off)
  ·rw [if_pos (.inr (.inl c2))] at hK
   refine eY (an c1 c2) ?_
   exact hK
  ·by_cases c3:IntKind.wrap .i64 (IntKind.wrap .i64 base+off)<6
   ·rw [if_pos (.inr (.inr c3))] at hK
    refine eY (an c1 (an c2 c3)) ?_
    exact hK
   ·rw [if_neg (by rintro(g | g | g) <;> contradiction)] at hK
    refine eY (an c1 (an c2 c3)) ?_
    exact hK
def CI (t:Bool):Int:=if t then 1 else 0
theorem vJ {t:Bool}(hK:G w0 L (K (u64 (CI t)))):G w0 L (CP Tryz.prog Fn.interp_truth [.bool t] K):=by
 refine Eu ?_
 unfold wV
 cases t
 ·refine gr ?_
  exact hK
 ·refine gr ?_
  exact hK
def tR (x:fm)(s:fT)(i:bu):fm×fT×Int :=
 if i.op=8 then (if (gP (x.r.get (m8 i.b)) i.c).2≠0 then (x,s,2)
  else if (cr s (gP (x.r.get (m8 i.b)) i.c).1).2.2=0 then (re x (m8 i.a) (cr s (gP (x.r.get (m8 i.b)) i.c).1).2.1,(cr s (gP (x.r.get (m8 i.b)) i.c).1).1,0)
  else (x,(cr s (gP (x.r.get (m8 i.b)) i.c).1).1,(cr s (gP (x.r.get (m8 i.b)) i.c).1).2.2))
 else if i.op=9 then (if (gP (x.r.get (m8 i.a)) i.c).2≠0 then (x,s,2) else (x,(rX s (gP (x.r.get (m8 i.a)) i.c).1 (x.r.get (m8 i.b))).1,(rX s (gP (x.r.get (m8 i.a)) i.c).1 (x.r.get (m8 i.b))).2))
 else if i.op=10 then (if 2147483648≤x.r.get (m8 i.b) then (x,s,3)
  else if (jD s (iE (x.r.get (m8 i.b)))).2.2=0 then (re x (m8 i.a) (wU (jD s (iE (x.r.get (m8 i.b)))).2.1),(jD s (iE (x.r.get (m8 i.b)))).1,0)
  else (x,(jD s (iE (x.r.get (m8 i.b)))).1,(jD s (iE (x.r.get (m8 i.b)))).2.2))
 else (if 2147483648≤x.r.get (m8 i.a) then (x,s,2) else (x,(zj s (iE (x.r.get (m8 i.a)))).1,(zj s (iE (x.r.get (m8 i.a)))).2))
def QS (x:fm)(s:fT)(i:bu):fm×fT×Int :=
 if i.op=1 then (re x (m8 i.a) i.n,s,0)
 else if i.op=2 then (re x (m8 i.a) (x.r.get (m8 i.b)),s,0)
 else if i.op=3 then (re x (m8 i.a) (IntKind.wrap .u64 (x.r.get (m8 i.b)+x.r.get (m8 i.c))),s,0)
 else if i.op=4 then (re x (m8 i.a) (IntKind.wrap .u64 (x.r.get (m8 i.b)-x.r.get (m8 i.c))),s,0)
 else if i.op=5 then (re x (m8 i.a) (IntKind.wrap .u64 (x.r.get (m8 i.b)*x.r.get (m8 i.c))),s,0)
 else if i.op=6 then (re x (m8 i.a) (CI (decide (x.r.get (m8 i.b)<x.r.get (m8 i.c)))),s,0)
 else if i.op=7 then (re x (m8 i.a) (CI (decide (x.r.get (m8 i.b)=x.r.get (m8 i.c)))),s,0)
 else if i.op=12 then ({ x with next:=i.c },s,0)
 else if i.op=13 then (if x.r.get (m8 i.a)=0 then { x with next:=i.c } else x,s,0)
 else if i.op=21 then (if x.items.length<16 then ({ x with items:=x.items++[x.r.get (m8 i.a)] },s,0) else (x,s,5))
 else if i.op=22 then (x,s,13)
 else if i.op=8∨i.op=9∨i.op=10∨i.op=11 then tR x s i
 else Bq x s i.op
structure S9 (x:fm)(s:fT)(i:bu):Prop where
 a:0≤i.a
 b:0≤i.b
 c:0≤i.c
 op:i.op≠23
 few:x.items.length≤16
 frees:s.l.r.f.length≤1000
 turn:Pw x s i.op
theorem Mx:∀{l:List au}{s:kf},(jm s l).1.r.f=s.r.f
 | [],_=>rfl
 | c::l,s=>by
  unfold jm
  split
  ·rw [Mx];rfl
  ·rfl
theorem RY {s:fT}{l:List au}:(gT s l).1.l.r.f=s.l.r.f:=by
 unfold gT
 split
 ·show (pK s.l l).1.r.f=_
  unfold pK
  split
  ·exact Mx
  ·rfl
 ·rfl
theorem Mt {s:fT}{a:Int}:(cr s a).1.l=s.l:=by
 unfold cr
 split
 ·split
  ·rfl
  ·split <;> rfl
 ·rfl
theorem PE {s:fT}{a:Int}:(iT s a).1.l=s.l:=by
 unfold iT
 split
 ·rfl
 ·split
  ·split <;> exact Mt
  ·exact Mt
theorem D8 {i:bu}(ho:S9 x s i)(h89:i.op=8∨i.op=9∨i.op=10∨i.op=11)(hK:G w0 (ob eM (b,vp) (tR x s i).1::ob br vp (tR x s i).2.1::M) (K (i64 (tR x s i).2.2))) :
  G w0 (ob eM (b,vp) x::ob br vp s::M) (CP Tryz.prog Fn.interp_Interp_touch [ptr b 0,.agg #[i64 i.op,i64 i.a,i64 i.b,i64 i.c,u64 i.n],ptr b (6+m8 i.a),u64 (x.r.get (m8 i.b))] K):=by
 refine uF ?_
 unfold mU
 obtain⟨la,ea⟩:=MN ho.a
 refine G.box fun q=>?_
 unfold tR at hK
 rcases h89 with h8 | h9 | h10 | h11
 ·rw [if_pos h8] at hK
  refine gf (eq_true h8) ?_
  refine xx ?_
  by_cases c:(gP (x.r.get (m8 i.b)) i.c).2=0
  ·rw [if_neg (fun g=>g c)] at hK
   refine G.take1 eM (b,vp) ?_
   rw [dc]
   intro vl vm vo op h
   have sg:=Ft (x:=x) (vl:=vl) (vm:=vm) (vo:=vo) (vp:=vp) (op:=op) (k:=m8 i.a) (y:=(cr s (gP (x.r.get (m8 i.b)) i.c).1).2.1) la
   refine gf c ?_
   refine kZ (s:=s) ?_
   by_cases c2:(cr s (gP (x.r.get (m8 i.b)) i.c).1).2.2=0
   ·rw [if_pos c2] at hK
    repeat' (first | (with_reducible refine G.joini0 ?_) | (with_reducible refine G.joini1 ?_) | (with_reducible refine G.drew ?_) | (simp (maxSteps:=2000000) only [↓RG,RP,RB,BEq.rfl,Int.reduceEq,Int.reduceLT,Int.reduceLE,Nat.reduceEqDiff,c2]))
    refine ba b vp op (re x (m8 i.a) (cr s (gP (x.r.get (m8 i.b)) i.c).1).2.1) rfl h ?_
    exact hK.sub
   ·rw [if_neg c2] at hK
    refine gf c2 ?_
    refine ba b vp op x rfl h ?_
    exact hK.sub
  ·rw [if_pos c] at hK
   have c3:(gP (x.r.get (m8 i.b)) i.c).2=2:=by
    unfold gP at c ⊢
    split
    ·rfl
    ·rename_i g;rw [if_neg g] at c;exact absurd rfl c
   rw [c3]
   refine gg ?_
   exact hK.sub
 ·have h8:¬i.op=8:=by omega
  rw [if_neg h8,if_pos h9] at hK
  refine G.take1 eM (b,vp) ?_
  rw [dc]
  intro vl vm vo op h
  have nt:=wi (x:=x) (vl:=vl) (vm:=vm) (vo:=vo) (vp:=vp) (op:=op) (k:=m8 i.a) la
  repeat' (first | (with_reducible refine G.joini0 ?_) | (with_reducible refine G.joini1 ?_) | (with_reducible refine G.drew ?_) | (simp (maxSteps:=2000000) only [↓RG,RP,RB,BEq.rfl,Int.reduceEq,Int.reduceLT,Int.reduceLE,Nat.reduceEqDiff,h8,eq_true h9]))
  refine xx ?_
  by_cases c:(gP (x.r.get (m8 i.a)) i.c).2=0
  ·rw [if_neg (fun g=>g c)] at hK
   refine gf c ?_
   refine H0 (s:=s) ?_
   refine ba b vp op x rfl h ?_
   exact hK.sub
  ·rw [if_pos c] at hK
   have c3:(gP (x.r.get (m8 i.a)) i.c).2=2:=by
    unfold gP at c ⊢
    split
    ·rfl
    ·rename_i g;rw [if_neg g] at c;exact absurd rfl c
   rw [c3]
   refine gg ?_
   refine ba b vp op x rfl h ?_
   exact hK.sub
 ·have h8:¬i.op=8:=by omega
  have h9:¬i.op=9:=by omega
  rw [if_neg h8,if_neg h9,if_pos h10] at hK
  by_cases c:2147483648≤x.r.get (m8 i.b)
  ·rw [if_pos c] at hK
   refine gf (an h8 (an h9 (an (eq_true h10) c))) ?_
   exact hK.sub
  ·rw [if_neg c] at hK
   refine G.take1 eM (b,vp) ?_
   rw [dc]
   intro vl vm vo op h
   have sg:=Ft (x:=x) (vl:=vl) (vm:=vm) (vo:=vo) (vp:=vp) (op:=op) (k:=m8 i.a) (y:=wU (jD s (iE (x.r.get (m8 i.b)))).2.1) la
   refine gf (an h8 (an h9 (an (eq_true h10) c))) ?_
   refine GP (s:=s) ?_
   by_cases c2:(jD s (iE (x.r.get (m8 i.b)))).2.2=0
   ·rw [if_pos c2] at hK
    repeat' (first | (with_reducible refine G.joini0 ?_) | (with_reducible refine G.joini1 ?_) | (with_reducible refine G.drew ?_) | (simp (maxSteps:=2000000) only [↓RG,RP,RB,BEq.rfl,Int.reduceEq,Int.reduceLT,Int.reduceLE,Nat.reduceEqDiff,c2]))
    refine ba b vp op (re x (m8 i.a) (wU (jD s (iE (x.r.get (m8 i.b)))).2.1)) rfl h ?_
    exact hK.sub
   ·rw [if_neg c2] at hK
    refine gf c2 ?_
    refine ba b vp op x rfl h ?_
    exact hK.sub
 ·have h8:¬i.op=8:=by omega
  have h9:¬i.op=9:=by omega
  have h10:¬i.op=10:=by omega
  rw [if_neg h8,if_neg h9,if_neg h10] at hK
  refine G.take1 eM (b,vp) ?_
  rw [dc]
  intro vl vm vo op h
  have nt:=wi (x:=x) (vl:=vl) (vm:=vm) (vo:=vo) (vp:=vp) (op:=op) (k:=m8 i.a) la
  by_cases c:2147483648≤x.r.get (m8 i.a)
  ·rw [if_pos c] at hK
   refine gf (an h8 (an h9 (an h10 c))) ?_
   refine ba b vp op x rfl h ?_
   exact hK.sub
  ·rw [if_neg c] at hK
   have hf:=ho.frees
   repeat' (first | (with_reducible refine G.joini0 ?_) | (with_reducible refine G.joini1 ?_) | (with_reducible refine G.drew ?_) | (simp (maxSteps:=2000000) only [↓RG,RP,RB,BEq.rfl,Int.reduceEq,Int.reduceLT,Int.reduceLE,Nat.reduceEqDiff,h8,h9,h10,c]))
   refine Ik (s:=s) hf (fun l=>by rw [RY,PE];omega) ?_
   refine gg ?_
   refine ba b vp op x rfl h ?_
   exact hK.sub
theorem Kd {i:bu}(ho:S9 x s i)(hK:G w0 (ob eM (b,vp) (QS x s i).1::ob br vp (QS x s i).2.1::M) (K (i64 (QS x s i).2.2))) :
  G w0 (ob eM (b,vp) x::ob br vp s::M) (CP Tryz.prog Fn.interp_Interp_do [ptr b 0,.agg #[i64 i.op,i64 i.a,i64 i.b,i64 i.c,u64 i.n]] K):=by
 refine z4 ?_
 unfold qL
 obtain⟨la,ea⟩:=MN ho.a
 obtain⟨lb,eb⟩:=MN ho.b
 obtain⟨lc,ec⟩:=MN ho.c
 have ixa:ii (i.a.tmod 8) (m8 i.a):=⟨ea⟩
 have ixb:ii (i.b.tmod 8) (m8 i.b):=⟨eb⟩
 have ixc:ii (i.c.tmod 8) (m8 i.c):=⟨ec⟩
 have ka:Uq (m8 i.a) 8:=⟨la⟩
 have kb:Uq (m8 i.b) 8:=⟨lb⟩
 have kc:Uq (m8 i.c) 8:=⟨lc⟩
 have o23:=ho.op
 refine G.box fun q=>?_
 refine G.take1 eM (b,vp) ?_
 rw [dc]
 intro vl vm vo op h
 have na:=wi (x:=x) (vl:=vl) (vm:=vm) (vo:=vo) (vp:=vp) (op:=op) la
 have nb:=wi (x:=x) (vl:=vl) (vm:=vm) (vo:=vo) (vp:=vp) (op:=op) lb
 have nc:=wi (x:=x) (vl:=vl) (vm:=vm) (vo:=vo) (vp:=vp) (op:=op) lc
 have sg:=fun y=>Ft (x:=x) (vl:=vl) (vm:=vm) (vo:=vo) (vp:=vp) (op:=op) (y:=y) la
 unfold QS at hK
 by_cases c1:i.op=1
 ·rw [if_pos c1] at hK
  repeat' (first | (with_reducible refine G.joini0 ?_) | (with_reducible refine G.joini1 ?_) | (with_reducible refine G.drew ?_) | (simp (maxSteps:=2000000) only [↓RG,RP,RB,BEq.rfl,Int.reduceEq,Int.reduceLT,Int.reduceLE,Nat.reduceEqDiff,jy,eq_true c1]))
  refine ba b vp op (re x (m8 i.a) (i.n)) rfl h ?_
  exact hK.sub
 rw [if_neg c1] at hK
 by_cases c2:i.op=2
 ·rw [if_pos c2] at hK
  repeat' (first | (with_reducible refine G.joini0 ?_) | (with_reducible refine G.joini1 ?_) | (with_reducible refine G.drew ?_) | (simp (maxSteps:=2000000) only [↓RG,RP,RB,BEq.rfl,Int.reduceEq,Int.reduceLT,Int.reduceLE,Nat.reduceEqDiff,jy,c1,eq_true c2]))
  refine ba b vp op (re x (m8 i.a) (x.r.get (m8 i.b))) rfl h ?_
  exact hK.sub
 rw [if_neg c2] at hK
 by_cases c3:i.op=3
 ·rw [if_pos c3] at hK
  repeat' (first | (with_reducible refine G.joini0 ?_) | (with_reducible refine G.joini1 ?_) | (with_reducible refine G.drew ?_) | (simp (maxSteps:=2000000) only [↓RG,RP,RB,BEq.rfl,Int.reduceEq,Int.reduceLT,Int.reduceLE,Nat.reduceEqDiff,jy,c1,c2,eq_true c3]))
  refine ba b vp op (re x (m8 i.a) (IntKind.wrap .u64 (x.r.get (m8 i.b)+x.r.get (m8 i.c)))) rfl h ?_
  exact hK.sub
 rw [if_neg c3] at hK
 by_cases c4:i.op=4
 ·rw [if_pos c4] at hK
  repeat' (first | (with_reducible refine G.joini0 ?_) | (with_reducible refine G.joini1 ?_) | (with_reducible refine G.drew ?_) | (simp (maxSteps:=2000000) only [↓RG,RP,RB,BEq.rfl,Int.reduceEq,Int.reduceLT,Int.reduceLE,Nat.reduceEqDiff,jy,c1,c2,c3,eq_true c4]))
  refine ba b vp op (re x (m8 i.a) (IntKind.wrap .u64 (x.r.get (m8 i.b)-x.r.get (m8 i.c)))) rfl h ?_
  exact hK.sub
 rw [if_neg c4] at hK
 by_cases c5:i.op=5
 ·rw [if_pos c5] at hK
  repeat' (first | (with_reducible refine G.joini0 ?_) | (with_reducible refine G.joini1 ?_) | (with_reducible refine G.drew ?_) | (simp (maxSteps:=2000000) only [↓RG,RP,RB,BEq.rfl,Int.reduceEq,Int.reduceLT,Int.reduceLE,Nat.reduceEqDiff,jy,c1,c2,c3,c4,eq_true c5]))
  refine ba b vp op (re x (m8 i.a) (IntKind.wrap .u64 (x.r.get (m8 i.b)*x.r.get (m8 i.c)))) rfl h ?_
  exact hK.sub
 rw [if_neg c5] at hK
 by_cases c6:i.op=6
 ·rw [if_pos c6] at hK
  repeat' (first | (with_reducible refine G.joini0 ?_) | (with_reducible refine G.joini1 ?_) | (with_reducible refine G.drew ?_) | (simp (maxSteps:=2000000) only [↓RG,RP,RB,BEq.rfl,Int.reduceEq,Int.reduceLT,Int.reduceLE,Nat.reduceEqDiff,jy,c1,c2,c3,c4,c5,eq_true c6]))
  refine vJ ?_
  repeat' (first | (with_reducible refine G.joini0 ?_) | (with_reducible refine G.joini1 ?_) | (with_reducible refine G.drew ?_) | (simp (maxSteps:=2000000) only [↓RG,RP,RB,BEq.rfl,Int.reduceEq,Int.reduceLT,Int.reduceLE,Nat.reduceEqDiff]))
  refine ba b vp op (re x (m8 i.a) (CI (decide (x.r.get (m8 i.b)<x.r.get (m8 i.c))))) rfl h ?_
  exact hK.sub
 rw [if_neg c6] at hK
 by_cases c7:i.op=7
 ·rw [if_pos c7] at hK
  repeat' (first | (with_reducible refine G.joini0 ?_) | (with_reducible refine G.joini1 ?_) | (with_reducible refine G.drew ?_) | (simp (maxSteps:=2000000) only [↓RG,RP,RB,BEq.rfl,Int.reduceEq,Int.reduceLT,Int.reduceLE,Nat.reduceEqDiff,jy,c1,c2,c3,c4,c5,c6,eq_true c7]))
  refine vJ ?_
  repeat' (first | (with_reducible refine G.joini0 ?_) | (with_reducible refine G.joini1 ?_) | (with_reducible refine G.drew ?_) | (simp (maxSteps:=2000000) only [↓RG,RP,RB,BEq.rfl,Int.reduceEq,Int.reduceLT,Int.reduceLE,Nat.reduceEqDiff]))
  refine ba b vp op (re x (m8 i.a) (CI (decide (x.r.get (m8 i.b)=x.r.get (m8 i.c))))) rfl h ?_
  exact hK.sub
 rw [if_neg c7] at hK
 by_cases c12:i.op=12
 ·rw [if_pos c12] at hK
  repeat' (first | (with_reducible refine G.joini0 ?_) | (with_reducible refine G.joini1 ?_) | (with_reducible refine G.drew ?_) | (simp (maxSteps:=2000000) only [↓RG,RP,RB,BEq.rfl,Int.reduceEq,Int.reduceLT,Int.reduceLE,Nat.reduceEqDiff,jy,c1,c2,c3,c4,c5,c6,c7,eq_true c12]))
  refine ba b vp op { x with next:=i.c } rfl h ?_
  exact hK.sub
 rw [if_neg c12] at hK
 by_cases c13:i.op=13
 ·rw [if_pos c13] at hK
  by_cases z:x.r.get (m8 i.a)=0
  ·rw [if_pos z] at hK
   repeat' (first | (with_reducible refine G.joini0 ?_) | (with_reducible refine G.joini1 ?_) | (with_reducible refine G.drew ?_) | (simp (maxSteps:=2000000) only [↓RG,RP,RB,BEq.rfl,Int.reduceEq,Int.reduceLT,Int.reduceLE,Nat.reduceEqDiff,jy,c1,c2,c3,c4,c5,c6,c7,c12,eq_true c13,eq_true z]))
   refine ba b vp op { x with next:=i.c } rfl h ?_
   exact hK.sub
  ·rw [if_neg z] at hK
   repeat' (first | (with_reducible refine G.joini0 ?_) | (with_reducible refine G.joini1 ?_) | (with_reducible refine G.drew ?_) | (simp (maxSteps:=2000000) only [↓RG,RP,RB,BEq.rfl,Int.reduceEq,Int.reduceLT,Int.reduceLE,Nat.reduceEqDiff,jy,c1,c2,c3,c4,c5,c6,c7,c12,eq_true c13,z]))
   refine ba b vp op x rfl h ?_
   exact hK.sub
 rw [if_neg c13] at hK
 by_cases c21:i.op=21
 ·rw [if_pos c21] at hK
  repeat' (first | (with_reducible refine G.joini0 ?_) | (with_reducible refine G.joini1 ?_) | (with_reducible refine G.drew ?_) | (simp (maxSteps:=2000000) only [↓RG,RP,RB,BEq.rfl,Int.reduceEq,Int.reduceLT,Int.reduceLE,Nat.reduceEqDiff,jy,c1,c2,c3,c4,c5,c6,c7,c12,c13,eq_true c21]))
  refine F4 (xs:=x.items) ho.few ?_
  by_cases z:x.items.length<16
  ·rw [if_pos z] at hK
   rw [if_pos z,decide_eq_true z]
   repeat' (first | (with_reducible refine G.joini0 ?_) | (with_reducible refine G.joini1 ?_) | (with_reducible refine G.drew ?_) | (simp (maxSteps:=2000000) only [↓RG,RP,RB,BEq.rfl,Int.reduceEq,Int.reduceLT,Int.reduceLE,Nat.reduceEqDiff]))
   refine ba b vp op { x with items:=x.items++[x.r.get (m8 i.a)] } rfl h ?_
   exact hK.sub
  ·rw [if_neg z] at hK
   rw [if_neg z,decide_eq_false z]
   repeat' (first | (with_reducible refine G.joini0 ?_) | (with_reducible refine G.joini1 ?_) | (with_reducible refine G.drew ?_) | (simp (maxSteps:=2000000) only [↓RG,RP,RB,BEq.rfl,Int.reduceEq,Int.reduceLT,Int.reduceLE,Nat.reduceEqDiff]))
   refine ba b vp op x rfl h ?_
   exact hK.sub
 rw [if_neg c21] at hK
 by_cases c22:i.op=22
 ·rw [if_pos c22] at hK
  repeat' (first | (with_reducible refine G.joini0 ?_) | (with_reducible refine G.joini1 ?_) | (with_reducible refine G.drew ?_) | (simp (maxSteps:=2000000) only [↓RG,RP,RB,BEq.rfl,Int.reduceEq,Int.reduceLT,Int.reduceLE,Nat.reduceEqDiff,jy,c1,c2,c3,c4,c5,c6,c7,c12,c13,c21,eq_true c22]))
  refine ba b vp op x rfl h ?_
  exact hK.sub
 rw [if_neg c22] at hK
 by_cases c89:i.op=8∨i.op=9∨i.op=10∨i.op=11
 ·rw [if_pos c89] at hK
  have hfin:G w0 (own b (x.cells vl vm vo vp op)::sl du vl x.prog::sl bg vm x.mt::sl yD vo x.op.reverse::ob ib op x.items::own q [i64 i.op,i64 i.a,i64 i.b,i64 i.c,u64 i.n]::ob br vp s::M) (CP Tryz.prog Fn.interp_Interp_touch [ptr b 0,.agg #[i64 i.op,i64 i.a,i64 i.b,i64 i.c,u64 i.n],ptr b (6+m8 i.a),u64 (x.r.get (m8 i.b))] (fun x84=>K x84)):=by
   refine ba b vp op x rfl h ?_
   refine G.pickAll (As:=[ob eM (b,vp) x,ob br vp s]) ?_
   simp only [List.cons_append,List.nil_append]
   refine D8 (x:=x) (s:=s) ho c89 ?_
   exact hK.sub
  rcases c89 with c8 | c9 | c10 | c11
  ·repeat' (first | (with_reducible refine G.joini0 ?_) | (with_reducible refine G.joini1 ?_) | (with_reducible refine G.drew ?_) | (simp (maxSteps:=2000000) only [↓RG,RP,RB,BEq.rfl,Int.reduceEq,Int.reduceLT,Int.reduceLE,Nat.reduceEqDiff,jy,c1,c2,c3,c4,c5,c6,c7,c12,c13,c21,c22,o23,eq_true c8]))
   exact hfin
  ·have c8:¬i.op=8:=by omega
   repeat' (first | (with_reducible refine G.joini0 ?_) | (with_reducible refine G.joini1 ?_) | (with_reducible refine G.drew ?_) | (simp (maxSteps:=2000000) only [↓RG,RP,RB,BEq.rfl,Int.reduceEq,Int.reduceLT,Int.reduceLE,Nat.reduceEqDiff,jy,c1,c2,c3,c4,c5,c6,c7,c12,c13,c21,c22,o23,c8,eq_true c9]))
   exact hfin
  ·have c8:¬i.op=8:=by omega
   have c9:¬i.op=9:=by omega
   repeat' (first | (with_reducible refine G.joini0 ?_) | (with_reducible refine G.joini1 ?_) | (with_reducible refine G.drew ?_) | (simp (maxSteps:=2000000) only [↓RG,RP,RB,BEq.rfl,Int.reduceEq,Int.reduceLT,Int.reduceLE,Nat.reduceEqDiff,jy,c1,c2,c3,c4,c5,c6,c7,c12,c13,c21,c22,o23,c8,c9,eq_true c10]))
   exact hfin
  ·have c8:¬i.op=8:=by omega
   have c9:¬i.op=9:=by omega
   have c10:¬i.op=10:=by omega
   repeat' (first | (with_reducible refine G.joini0 ?_) | (with_reducible refine G.joini1 ?_) | (with_reducible refine G.drew ?_) | (simp (maxSteps:=2000000) only [↓RG,RP,RB,BEq.rfl,Int.reduceEq,Int.reduceLT,Int.reduceLE,Nat.reduceEqDiff,jy,c1,c2,c3,c4,c5,c6,c7,c12,c13,c21,c22,o23,c8,c9,c10,eq_true c11]))
   exact hfin
 rw [if_neg c89] at hK
 have c8:¬i.op=8:=fun g=>c89 (.inl g)
 have c9:¬i.op=9:=fun g=>c89 (.inr (.inl g))
 have o10:¬i.op=10:=fun g=>c89 (.inr (.inr (.inl g)))
 have o11:¬i.op=11:=fun g=>c89 (.inr (.inr (.inr g)))
 repeat' (first | (with_reducible refine G.joini0 ?_) | (with_reducible refine G.joini1 ?_) | (with_reducible refine G.drew ?_) | (simp (maxSteps:=2000000) only [↓RG,RP,RB,BEq.rfl,Int.reduceEq,Int.reduceLT,Int.reduceLE,Nat.reduceEqDiff,jy,c1,c2,c3,c4,c5,c6,c7,c12,c13,c21,c22,o23,c8,c9,o10,o11]))
 refine ba b vp op x rfl h ?_
 refine G.pickAll (As:=[ob eM (b,vp) x,ob br vp s]) ?_
 simp only [List.cons_append,List.nil_append]
 refine GG (x:=x) (s:=s) ho.turn ?_
 exact hK.sub
abbrev fm.ins (x:fm):bu:=x.prog.getD x.pos.toNat ⟨0,0,0,0,0⟩
abbrev fm.on (x:fm):fm:={ x with pos:=x.next,left:=x.left-1 }
abbrev fm.failed (x:fm)(e:Int):fm:={ x with fin:=4,err:=e }
def gF (x:fm)(s:fT):fm×fT×Int:=QS { x with next:=x.pos+1 } s x.ins
def jp:Nat→fm→fT→fm×fT×Int
 | 0,x,s=>(x,s,x.fin)
 | n+1,x,s =>
  if x.fin≠0 then (x,s,x.fin)
  else if x.bad≠0 then (x.failed x.bad,s,4)
  else if x.pos=x.prog.length then ({ x with fin:=2 },s,2)
  else if x.left=0 then (x.failed 6,s,4)
  else if (gF x s).2.2=0 then jp n (gF x s).1.on (gF x s).2.1
  else if (gF x s).2.2=11 then ((gF x s).1,(gF x s).2.1,1)
  else ((gF x s).1.failed (gF x s).2.2,(gF x s).2.1,4)
structure QJ (x:fm)(s:fT):Prop where
 len:x.prog.length≤100000
 lo:0≤x.pos
 hi:x.pos<x.prog.length
 do_:S9 { x with next:=x.pos+1 } s x.ins
 left:0≤(gF x s).1.left∧(gF x s).1.left≤1000
def xD:Nat→fm→fT→Prop
 | 0,x,s=>x.fin≠0
 | n+1,x,s=>x.fin≠0∨x.bad≠0∨x.pos=x.prog.length∨x.left=0∨(QJ x s∧((gF x s).2.2=0→xD n (gF x s).1.on (gF x s).2.1))
theorem EN {n:Nat}(h:x.fin≠0):jp n x s=(x,s,x.fin):=by cases n <;> simp [jp,h]
theorem HK {n:Nat}(h:x.fin≠0):xD n x s:=by cases n;exact h;exact .inl h
theorem IA {n:Nat}(ho:xD n x s)(hK:G w0 (ob eM (b,vp) (jp n x s).1::ob br vp (jp n x s).2.1::M) (K (i64 (jp n x s).2.2))) :
  G w0 (ob eM (b,vp) x::ob br vp s::M) (CP Tryz.prog Fn.interp_Interp_Run [ptr b 0] K):=by
 refine yr ?_
 unfold pA
 refine G.loop0 (σ:=Nat×fm×fT) (fun z=>ob eM (b,vp) z.2.1::ob br vp z.2.2::M) (fun z=>xD z.1 z.2.1 z.2.2∧jp z.1 z.2.1 z.2.2=jp n x s) (fun z=>z.1) (n,x,s) rfl ⟨ho,rfl⟩ ?_
 rintro⟨k,y,t⟩ ⟨hk,he⟩ J hJ
 simp only at hk he hJ ⊢
 rw [←he] at hK
 by_cases f:y.fin=0
 ·cases k with
  | zero=>exact absurd f hk
  | succ k =>
   have hend:∀(z:fm) (t':fT),z.fin≠0→jp (k+1) y t=(z,t',z.fin)→G w0 (ob eM (b,vp) z::ob br vp t'::M) J:=fun z t' hz e =>
    hJ (k,z,t') ⟨HK hz,by rw [EN hz,←he,e]⟩ (by simp)
   rw [dc]
   intro vl vm vo op h
   by_cases c1:y.bad=0
   ·by_cases c2:y.pos=y.prog.length
    ·repeat' (first | (with_reducible refine G.joini0 ?_) | (with_reducible refine G.joini1 ?_) | (with_reducible refine G.drew ?_) | (simp (maxSteps:=2000000) only [↓RG,RP,RB,BEq.rfl,Int.reduceEq,Int.reduceLT,Int.reduceLE,Nat.reduceEqDiff,eq_true f,eq_true c1,eq_true c2]))
     refine ba b vp op { y with fin:=2 } rfl h ?_
     exact(hend { y with fin:=2 } t (show (2:Int)≠0 by decide) (by simp [jp,f,c1,c2])).sub
    ·by_cases c3:y.left=0
     ·repeat' (first | (with_reducible refine G.joini0 ?_) | (with_reducible refine G.joini1 ?_) | (with_reducible refine G.drew ?_) | (simp (maxSteps:=2000000) only [↓RG,RP,RB,BEq.rfl,Int.reduceEq,Int.reduceLT,Int.reduceLE,Nat.reduceEqDiff,eq_true f,eq_true c1,c2,eq_true c3]))
      refine ba b vp op y rfl h ?_
      refine rU (vp:=vp) (x:=y) ?_
      repeat' (first | (with_reducible refine G.joini0 ?_) | (with_reducible refine G.joini1 ?_) | (with_reducible refine G.drew ?_) | (simp (maxSteps:=2000000) only [↓RG,RP,RB,BEq.rfl,Int.reduceEq,Int.reduceLT,Int.reduceLE,Nat.reduceEqDiff]))
      exact(hend { y with fin:=4,err:=6 } t (show (4:Int)≠0 by decide) (by simp [jp,f,c1,c2,c3])).sub
     ·rcases hk with g | g | g | g | ⟨⟨k1,k2,k3,k4,k5,k6⟩,k7⟩
      ·exact absurd f g
      ·exact absurd c1 g
      ·exact absurd g c2
      ·exact absurd g c3
      have er:jp (k+1) y t=if (gF y t).2.2=0 then jp k (gF y t).1.on (gF y t).2.1 else if (gF y t).2.2=11 then ((gF y t).1,(gF y t).2.1,1) else ((gF y t).1.failed (gF y t).2.2,(gF y t).2.1,4):=by
       rw [jp,if_neg (fun g=>g f),if_neg (fun g=>g c1),if_neg c2,if_neg c3]
      have hin:y.prog[y.pos.toNat]? = some y.ins:=by
       have:y.pos.toNat<y.prog.length:=by omega
       show _=some (y.prog.getD y.pos.toNat ⟨0,0,0,0,0⟩)
       rw [List.getD_eq_getElem?_getD,List.getElem?_eq_getElem this];rfl
      have e:eU y.prog y.pos.toNat y.ins:=⟨hin⟩
      have ix:ii y.pos y.pos.toNat:=⟨by omega⟩
      have ew:IntKind.wrap .i64 (y.pos+1)=y.pos+1:=iA (by omega) (by omega)
      repeat' (first | (with_reducible refine G.joini0 ?_) | (with_reducible refine G.joini1 ?_) | (with_reducible refine G.drew ?_) | (simp (maxSteps:=2000000) only [↓RG,RP,RB,BEq.rfl,Int.reduceEq,Int.reduceLT,Int.reduceLE,Nat.reduceEqDiff,eq_true f,eq_true c1,c2,c3,ew]))
      refine ba b vp op { y with next:=y.pos+1 } rfl h ?_
      refine G.pickAll (As:=[ob eM (b,vp) { y with next:=y.pos+1 },ob br vp t]) ?_
      simp only [List.cons_append,List.nil_append]
      refine Kd (x:={ y with next:=y.pos+1 }) (s:=t) (i:=y.ins) k4 ?_
      rw [show QS { y with next:=y.pos+1 } t y.ins=gF y t from rfl]
      generalize gF y t=d at er k5 k6 k7
      obtain⟨z,t2,q⟩:=d
      simp only at er k5 k6 k7 ⊢
      by_cases c4:q=0
      ·rw [if_pos c4] at er
       have el:IntKind.wrap .i64 (z.left-1)=z.left-1:=iA (by omega) (by omega)
       rw [dc]
       intro vl vm vo op h
       repeat' (first | (with_reducible refine G.joini0 ?_) | (with_reducible refine G.joini1 ?_) | (with_reducible refine G.drew ?_) | (simp (maxSteps:=2000000) only [↓RG,RP,RB,BEq.rfl,Int.reduceEq,Int.reduceLT,Int.reduceLE,Nat.reduceEqDiff,eq_true c4,el]))
       refine ba b vp op { z with pos:=z.next,left:=z.left-1 } rfl h ?_
       exact(hJ (k,{ z with pos:=z.next,left:=z.left-1 },t2) ⟨k7 c4,by rw [←he,er]⟩ (by simp)).sub
      ·rw [if_neg c4] at er
       by_cases c5:q=11
       ·rw [if_pos c5] at er
        rw [er] at hK
        refine gf (an c4 (eq_true c5)) ?_
        exact hK.sub
       ·rw [if_neg c5] at er
        refine gf (an c4 c5) ?_
        refine rU (vp:=vp) (x:=z) ?_
        repeat' (first | (with_reducible refine G.joini0 ?_) | (with_reducible refine G.joini1 ?_) | (with_reducible refine G.drew ?_) | (simp (maxSteps:=2000000) only [↓RG,RP,RB,BEq.rfl,Int.reduceEq,Int.reduceLT,Int.reduceLE,Nat.reduceEqDiff]))
        exact(hend { z with fin:=4,err:=q } t2 (show (4:Int)≠0 by decide) er).sub
   ·repeat' (first | (with_reducible refine G.joini0 ?_) | (with_reducible refine G.joini1 ?_) | (with_reducible refine G.drew ?_) | (simp (maxSteps:=2000000) only [↓RG,RP,RB,BEq.rfl,Int.reduceEq,Int.reduceLT,Int.reduceLE,Nat.reduceEqDiff,eq_true f,c1]))
    refine ba b vp op y rfl h ?_
    refine rU (vp:=vp) (x:=y) ?_
    repeat' (first | (with_reducible refine G.joini0 ?_) | (with_reducible refine G.joini1 ?_) | (with_reducible refine G.drew ?_) | (simp (maxSteps:=2000000) only [↓RG,RP,RB,BEq.rfl,Int.reduceEq,Int.reduceLT,Int.reduceLE,Nat.reduceEqDiff]))
    exact(hend { y with fin:=4,err:=y.bad } t (show (4:Int)≠0 by decide) (by simp [jp,f,c1])).sub
 ·rw [EN f] at hK
  rw [dc] at hK ⊢
  intro vl vm vo op h
  have hK:=hK vl vm vo op h
  refine gf f ?_
  exact hK
end
end Go.Proofs.YtoealglbimbbmaaGreatDoor.S
