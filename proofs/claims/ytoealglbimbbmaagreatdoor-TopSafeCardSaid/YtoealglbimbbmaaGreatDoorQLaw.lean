import Derived.Test.YtoealglbimbbmaaGreatDoorQSf
import Derived.Test.YtoealglbimbbmaaGreatDoorQHp
namespace Go.Proofs.YtoealglbimbbmaaGreatDoor.S
open Go Go.Proofs
set_option linter.unusedVariables false
set_option linter.unusedSimpArgs false
abbrev IX:List dv:=[⟨8,0,7,6,0⟩,⟨1,1,0,0,1⟩,⟨3,0,0,1,0⟩,⟨9,7,0,6,0⟩,⟨21,0,0,0,0⟩]
theorem QW:jb IX:=by
 refine⟨by decide,by decide,fun i hi=>?_⟩
 simp only [List.mem_cons,List.not_mem_nil,or_false] at hi
 unfold Gn pi
 rcases hi with rfl | rfl | rfl | rfl | rfl <;> simp
abbrev JF:dr:=⟨40,4,0,0,0,0,9,20⟩
abbrev ρA:z6:=fun r s=>fz 401 r s
def UY (x:io)(sl:ByteArray):io:=match x.thr with
 | [t]=>if (az t).2=true then fN ρA x 0 t 0 sl else jJ x 0 t
 | _=>x
def Oe:Nat→io
 | 0=>dc JF [[IX]]
 | k+1=>UY (Oe k) (GF [.num 1])
def TY (x:io):Bool:=match x.thr with
 | [t]=>(match t.now with
  | some a=>(match a.run with | some r=>r.prog.all fun i=>!decide (i.op=23) | none=>true) && (decide (t.state≠1) || decide ((ao ρA a (ay x.mem (az t).1).2).state≠8) || ((ao ρA a (ay x.mem (az t).1).2).done && (match (ao ρA a (ay x.mem (az t).1).2).run with | some r=>decide (r.items=[.num 1]) | none=>false)))
  | none=>true)
 | _=>false
theorem T1:((List.range 40).all fun k=>TY (Oe k))=true:=by decide +kernel
def S1 (x:io):Bool:=decide (x.mem.w.length=40) && decide (x.mem.w[6]? = some 1) && sS x.thr && decide ((jN x).length=1) && (match x.thr with
 | [t]=>(match t.res with | [r]=>r.slate.toList == [49] | _=>false)
 | _=>false)
theorem Tb:S1 (Oe 40)=true:=by decide +kernel
section
variable {w0:bo}{L M:List bd}{K:KV}{F:World→Prop}{C:bd→List bd}{b:Nat}{x:io}{v:Value}{S:dr}{h0:Hp}{n:Nat}{LG:pj}{t:bq}
theorem QS {ρ:z6}(hρ:cx ρ){a:bi}(hA:∀r,a.run=some r→m7 r a.v)(hn:∀r,a.run=some r→∀i∈r.prog,i.op≠23):fy ρ a=fy ρA a:=by
 unfold fy
 cases hr:a.run with
 | none=>rfl
 | some r=>simp only;rw [(hρ.q r a.v (hA r hr)).det (hn r hr)]
theorem PU {ρ:z6}(hρ:cx ρ){G:Gs}{nl nw i:Nat}{a:bi}{an:eW}(h:iN S h0 n G nl nw i a)(hn:∀r,a.run=some r→∀i∈r.prog,i.op≠23):ao ρ a an=ao ρA a an:=by
 unfold ao
 by_cases s8:a.state=8
 ·rw [if_pos s8,if_pos s8]
 rw [if_neg s8,if_neg s8]
 by_cases s0:a.state=0
 ·rw [if_pos s0,if_pos s0]
 rw [if_neg s0,if_neg s0]
 by_cases s1:a.state=1
 ·rw [if_pos s1,if_pos s1]
 rw [if_neg s1,if_neg s1]
 by_cases s2:a.state=2
 ·rw [if_pos s2,if_pos s2]
  unfold fh
  rw [QS hρ (h.run (by omega)).1 hn]
 rw [if_neg s2,if_neg s2]
 by_cases s7:a.state=7
 ·rw [if_pos s7,if_pos s7]
 rw [if_neg s7,if_neg s7]
 have hst:=h.st
 unfold dN
 have he:gS ρ { a with inn:=a.inn.tell an }=gS ρA { a with inn:=a.inn.tell an }:=by
  by_cases s3:a.state=3
  ·obtain⟨_,f,hf,_⟩:=h.fet s3
   have hR:=(h.run (by omega)).1
   have e:({ a with inn:=a.inn.tell an }:bi)={ a with inn:=.fetch (df f an) }:=by rw [hf]
   rw [e]
   show cy ρ { a with inn:=.fetch (df f an) } (df f an)=cy ρA { a with inn:=.fetch (df f an) } (df f an)
   unfold cy fh
   have hl:∀{y:Int},(lL a.v a.v.need y).1.l=a.v.l:=M9
   rw [QS hρ (a:=kE { a with inn:=.fetch (df f an) } (df f an)) (fun r hr=>(hR r hr).lv hl) hn]
  ·by_cases s6:a.state=6
   ·obtain⟨c,hc,_⟩:=h.com s6
    have e:({ a with inn:=a.inn.tell an }:bi)={ a with inn:=.com (cZ c an) }:=by rw [hc]
    rw [e]
   ·obtain⟨_,q,hq,_⟩:=h.ext (by omega)
    have e:({ a with inn:=a.inn.tell an }:bi)={ a with inn:=.ext (dS q an) }:=by rw [hq]
    rw [e]
 rw [he]
theorem TP {ρ:z6}(hρ:cx ρ){sl:ByteArray}(hM:MI S h0 n x LG)(h:TY x=true)(ht:x.thr=[t])(hs:∀a,t.now=some a→tt (ao ρ a (ay x.mem (az t).1).2) sl):(if (az t).2=true then fN ρ x 0 t 0 sl else jJ x 0 t)=UY x (GF [.num 1]):=by
 unfold UY
 rw [ht]
 simp only
 by_cases g:(az t).2=true
 ·rw [if_pos g,if_pos g]
  have key:∀p,thrTell ρ t (ay x.mem (az t).1).2 0 p sl=thrTell ρA t (ay x.mem (az t).1).2 0 p (GF [.num 1]):=fun p=>by
   unfold TY at h
   rw [ht] at h
   simp only at h
   unfold thrTell
   by_cases g1:t.state=1
   ·rw [if_pos g1,if_pos g1]
    obtain⟨a,hn,hA,_⟩:=(hM.thr 0 t (by rw [ht];rfl)).run g1
    rw [hn] at h
    simp only [hn] at h ⊢
    have hs:=hs a hn
    rw [Bool.and_eq_true] at h
    obtain⟨hc,h⟩:=h
    rw [PU hρ hA (fun r hr i hi=>by
     rw [hr] at hc
     have:=List.all_eq_true.1 hc i hi
     simpa using this)] at hs ⊢
    generalize ao ρA a (ay x.mem (az t).1).2=a' at h hs ⊢
    unfold kw
    by_cases g8:a'.state=8
    ·simp only [g1,g8,ne_eq,not_true,decide_false,Bool.false_or,Bool.and_eq_true] at h
     obtain⟨hd,hr⟩:=h
     cases hrun:a'.run with
     | none=>rw [hrun] at hr;cases hr
     | some r =>
      rw [hrun] at hr
      have e1:r.items=[.num 1]:=by simpa using hr
      have e2:=hs (by simpa [bi.done,g8] using hd) r hrun
      rw [e1] at e2
      have e3:=e2 1 rfl (by decide)
      subst e3
      rfl
    ·have hn2:¬(a'.state=8∧a'.fin≠0):=fun h=>g8 h.1
     simp only [if_neg hn2]
   ·rw [if_neg g1,if_neg g1]
  unfold fN
  rw [key]
 ·rw [if_neg g,if_neg g]
theorem R3 (ht:uz w0){i:Nat}{draw:Int}(hM:MI S h0 n x LG)(hU:rX x)(hp:x.picks≤1000000)(hi:x.thr[i]? = some t)(hd:0≤draw)(hd2:draw≤255)[i_:au L nE b x C]
  (hK:∀x',(∃L',MI S h0 n x' L')→rX x'→x'.picks=x.picks+1→(∃ρ sl,cx ρ∧(∀at_,t.now=some at_→tt (ao ρ at_ (ay x.mem (az t).1).2) sl)∧x'=if (az t).2=true then fN ρ x i t draw sl else jJ x i t)→G w0 (C (ob nE b x')) (K (i64 0))):G w0 L (CP Tryz.prog VJ [ptr b 0,i64 i,.int .u8 draw] K):=by
 have hU2:∀ρ,cx ρ→t.state=1→∀a,t.now=some a→∀n∈(ao ρ a (ay x.mem (be a).1).2).items,xZ n:=fun ρ hρ g1 a ha=>(hU.ans hρ (List.mem_of_getElem? hi) g1 ha).items
 refine vG ht (x:=x) (t:=t) (M7 hM hi hp hU2) hd hd2 fun sl ρ hρ hs=>hK _ ?_ (hU.step hρ hi) ?_ ⟨ρ,sl,hρ,hs,rfl⟩
 ·by_cases g:(az t).2=true
  ·rw [if_pos g];obtain⟨L',h1,_⟩:=(HU hM hi hp g hU2).2 ρ draw sl hρ hd;exact⟨L',h1⟩
  ·rw [if_neg g];exact⟨_,L9 hM hi (by simpa using g)⟩
 ·by_cases g:(az t).2=true
  ·rw [if_pos g];rfl
  ·rw [if_neg g]
theorem KQ (hK:∀s:kx,G w0 (sl gD s.v IX::L) (K (.agg #[s.v]))):G w0 L (CP Tryz.prog XC [i64 6] K):=by
 refine K6 ?_
 unfold DU
 refine G.new fun q=>?_
 refine gg ?_
 refine G.build gD IX rfl (by decide) (by kernel_rfl) fun v hv=>?_
 refine G.isSl (v:=v) fun s hs=>?_
 subst hs
 refine gg ?_
 exact(hK s).sub
theorem P6 {a b:ByteArray}{K:KV}(h:(a.toList == b.toList)=true):G w0 L (pS .eql (.string a) (.string b) K)=G w0 L (K (.bool true)):=by
 congr 1
 funext w
 show D7 .eql (a.toList == b.toList) K w=_
 rw [h]
 rfl
theorem Kv (ht:uz w0)(hK:G w0 L (K (.bool true))):G w0 L (CP Tryz.prog Xu [] K):=by
 refine JO ?_
 unfold Ct
 refine gg ?_
 refine KQ fun sv=>?_
 refine G.build eu [sv] rfl (by decide) rfl fun u1 h1=>?_
 refine G.isSl (v:=u1) fun s1 e1=>?_
 subst e1
 refine G.build eu [s1] rfl (by decide) rfl fun u2 h2=>?_
 refine lI (f:=pR) ?_
 refine lI (f:=qP) ?_
 refine G.pickAll (As:=[pR (sv,IX),ob (cd pR) () []]) ?_
 rw [List.cons_append,List.cons_append,List.nil_append,←iU,List.nil_append]
 refine Da s1.v [(sv,IX)] (ps:=[sv]) (rs:=[IX]) rfl rfl ?_
 refine G.pickAll (As:=[qP (s1,[IX]),ob (cd qP) () []]) ?_
 rw [List.cons_append,List.cons_append,List.nil_append,←iU,List.nil_append]
 refine Nb u2 [(s1,[IX])] (ps:=[s1]) (rs:=[[IX]]) rfl rfl ?_
 refine yn (s:=⟨40,4,0,0,0,0,9,20⟩) (rows:=[[IX]]) (by decide) (fun r hr=>?_) h2 fun b=>?_
 ·rw [List.mem_singleton.1 hr]
  exact⟨by decide,fun p hp=>by rw [List.mem_singleton.1 hp];exact QW⟩
 rw [show dc ⟨40,4,0,0,0,0,9,20⟩ (BQ [[IX]])=Oe 0 from rfl]
 have hM0:=Mc (s:=JF) (rows:=[[IX]]) (by decide) (by decide) (fun r hr=>by
  rw [List.mem_singleton.1 hr]
  exact⟨by decide,fun p hp=>by rw [List.mem_singleton.1 hp];exact QW⟩)
 have hU0:=rX.new (s:=JF) (rows:=[[IX]]) (fun r hr p hp=>by
  rw [List.mem_singleton.1 hr] at hp
  rw [List.mem_singleton.1 hp]
  unfold mf
  decide)
 rw [show dc JF [[IX]]=Oe 0 from rfl] at hM0 hU0
 generalize hS:cq JF [[IX]].length=S at hM0
 generalize (fun c:Int=>(Oe 0).mem.w.getD c.toNat 0)=h0 at hM0
 have hn:[[IX]].length=1:=rfl
 rw [hn] at hM0
 refine gg ?_
 refine G.loop1 (σ:=Nat) (fun z=>i64 z) (fun z=>ob nE b (Oe z)::ob G7 u2 [[IX]]::L) (fun z=>z≤40∧(Oe z).picks=z∧rX (Oe z)∧∃LG,MI S h0 1 (Oe z) LG) (fun z=>40-z) 0 rfl rfl ⟨Nat.zero_le _,rfl,hU0,_,hM0⟩ ?_
 rintro k ⟨hk,hpk,hU,LG,hM⟩ J hJ
 refine gr ?_
 refine G.cond (fun h=>?_) (fun h=>?_)
 ·have hk2:k<40:=by simp only [decide_eq_true_eq] at h;omega
  have hok:=List.all_eq_true.1 T1 k (List.mem_range.2 hk2)
  obtain⟨t,hthr⟩:=List.length_eq_one_iff.1 hM.len
  refine R3 ht hM hU (i:=0) (t:=t) (by omega) (by rw [hthr];rfl) (by decide) (by decide) fun x' hM' hU' hp' hx'=>?_
  obtain⟨ρ,sl,hρ,hs,hx'⟩:=hx'
  rw [TP hρ hM hok hthr hs,show UY (Oe k) (GF [.num 1])=Oe (k+1) from rfl] at hx'
  subst hx'
  repeat' (first | (with_reducible refine G.joini0 ?_) | (with_reducible refine G.joini1 ?_) | (with_reducible refine G.drew ?_) | (simp (maxSteps:=2000000) only [↓RG,RP,RB,BEq.rfl,Int.reduceEq,Int.reduceLT,Int.reduceLE,Nat.reduceEqDiff]))
  rw [dx (by omega)]
  exact(hJ (k+1) ⟨hk2,by rw [hp',hpk];rfl,hU',hM'⟩ (by omega)).sub
 ·have hk2:k=40:=by simp only [decide_eq_false_iff_not] at h;omega
  subst hk2
  have he:=Tb
  generalize Oe 40=x at hM he hpk hU ⊢
  have hlen:=hM.len
  obtain⟨t,hthr⟩:=List.length_eq_one_iff.1 hlen
  have hat:x.thr[0]? = some t:=by rw [hthr];rfl
  have hT:=hM.thr 0 t hat
  unfold S1 at he
  simp only [Bool.and_eq_true,decide_eq_true_eq,hthr] at he
  obtain⟨⟨⟨⟨hw1,hw2⟩,hr1⟩,hto⟩,hres⟩:=he
  obtain⟨r,hr,hsl⟩:∃r,t.res=[r]∧(r.slate.toList == [49])=true:=by
   revert hres
   cases h:t.res with
   | nil=>intro g;cases g
   | cons r l=>cases l with
    | nil=>intro g;exact⟨r,rfl,g⟩
    | cons=>intro g;cases g
  refine tU (x:=x) (by omega) fun u hu=>?_
  refine zI (x:=x) (i:=0) (t:=t) hat (by omega) (by rw [hr];simp) fun u3 h3=>?_
  have hel:fe x.mem.w 6 1:=⟨hw2⟩
  have hwl:(x.mem.w.length:Int)=40:=by omega
  rw [hr]
  refine gu ?_
  refine gf hwl ?_
  repeat' (first | (with_reducible refine G.joini0 ?_) | (with_reducible refine G.joini1 ?_) | (with_reducible refine G.drew ?_) | (simp (maxSteps:=2000000) only [↓RG,RP,RB,BEq.rfl,Int.reduceEq,Int.reduceLT,Int.reduceLE,Nat.reduceEqDiff,List.length_cons,List.length_nil,Nat.reduceAdd,Int.cast_ofNat_Int]))
  rw [show gb [49]=.string ⟨#[49]⟩ from rfl,P6 (by simpa using hsl)]
  refine gg ?_
  refine CY (x:=x) (by omega) ?_
  rw [hthr,hr1]
  refine gg ?_
  refine qA (x:=x) ht (fun t' htm=>?_) (by omega) fun u5 h5=>?_
  ·rw [hthr,List.mem_singleton] at htm
   subst htm
   have:=hT.b.pastn
   refine⟨by omega,fun g=>?_⟩
   obtain⟨a,ha,hA,h8,_⟩:=hT.run g
   exact⟨a,ha,hA.tol h8 ((hU.thr _ (by rw [hthr];exact List.mem_cons_self)).now a ha)⟩
  rw [kT]
  intro q ⟨hq1,hq2⟩
  have hl6:(q.length:Int)=1:=by
   have h9:=congrArg List.length hq1
   rw [List.length_map] at h9
   show (q.length:Int)=1
   have h10:(jN x).length=1:=hto
   omega
  repeat' (first | (with_reducible refine G.joini0 ?_) | (with_reducible refine G.joini1 ?_) | (with_reducible refine G.drew ?_) | (simp (maxSteps:=2000000) only [↓RG,RP,RB,BEq.rfl,Int.reduceEq,Int.reduceLT,Int.reduceLE,Nat.reduceEqDiff,hl6,List.length_map]))
  exact hK.sub
end
end Go.Proofs.YtoealglbimbbmaaGreatDoor.S
namespace Go.Proofs.YtoealglbimbbmaaGreatDoor.S
open Go Go.Proofs
set_option linter.unusedVariables false
set_option linter.unusedSimpArgs false
theorem SI.arena {S:dr}{h0:Hp}{σ0:Sg}{n:Nat}{x:io}{L:pj}{Q:List Rc}(h:SI S h0 σ0 n x L Q):∃σ,Fm (Ik h0 L) σ:=by
 obtain⟨h',σ',hc⟩:=h.qp.q.chain (q:=Q) (p:=[]) (h:=h0) (σ:=σ0) rfl .nil
 have:=hc.shp h.qp.q.st0
 rw [hc.heap,h.lg] at this
 exact⟨_,this⟩
section
variable {w0:bo}{L M:List bd}{K:KV}{F:World→Prop}{C:bd→List bd}{b:Nat}{x:io}{v:Value}{S:dr}{h0:Hp}{σ0:Sg}{n:Nat}{LG:pj}{Q:List Rc}{t:bq}
theorem Od {q:wv}{n:Nat}[i:bf v (wv.cells q)](h1:1≤n)(h4:n≤4)(hn:x.thr.length=n)[j:au L nE b x C](hK:∀k:Nat,k<n→G w0 L (K (i64 k))):G w0 L (CP Tryz.prog Xx [ptr b 0,v] K):=by
 refine NC ?_
 unfold GK
 refine G.box fun p=>?_
 repeat' (first | (with_reducible refine G.joini0 ?_) | (with_reducible refine G.joini1 ?_) | (with_reducible refine G.drew ?_) | (simp (maxSteps:=2000000) only [↓RG,RP,RB,BEq.rfl,Int.reduceEq,Int.reduceLT,Int.reduceLE,Nat.reduceEqDiff]))
 refine AG (x:=x) ?_
 rw [hn]
 have e1:IntKind.wrap .i64 ((n:Int)-1)=n-1:=gh (by omega) (by omega)
 have hc:(if (n:Int)<1 then (1:Int) else n)=n:=if_neg (by omega)
 refine gf (an hc e1) ?_
 refine rx (by decide) (by omega) (by omega) (by omega) ?_
 obtain⟨w1,w2⟩:=Gt (n:=q.t) (show (0:Int)≤(n:Int)-1 by omega)
 obtain⟨k,hk⟩:=Int.eq_ofNat_of_zero_le w1
 rw [hk] at w2 ⊢
 refine gg ?_
 exact(hK k (by omega)).sub
theorem Rl (ht:uz w0){i:Nat}{draw:Int}(hM:MI S h0 n x LG)(hS:SI S h0 σ0 n x LG Q)(hU:rX x)(hp:x.picks≤1000000)(hi:x.thr[i]? = some t)(hd:0≤draw)(hd2:draw≤255)[i_:au L nE b x C]
  (hK:∀x',(∃L' Q',MI S h0 n x' L'∧SI S h0 σ0 n x' L' Q')→rX x'→x'.picks=x.picks+1→x'.last=(az t).1→x'.did=(az t).2→G w0 (C (ob nE b x')) (K (i64 0))):G w0 L (CP Tryz.prog VJ [ptr b 0,i64 i,.int .u8 draw] K):=by
 have hU2:∀ρ,cx ρ→t.state=1→∀a,t.now=some a→∀n∈(ao ρ a (ay x.mem (be a).1).2).items,xZ n:=fun ρ hρ g1 a ha=>(hU.ans hρ (List.mem_of_getElem? hi) g1 ha).items
 refine vG ht (x:=x) (t:=t) (M7 hM hi hp hU2) hd hd2 fun sl ρ hρ hs=>?_
 by_cases g:(az t).2=true
 ·rw [if_pos g]
  obtain⟨L',h1,h2,h3,h4⟩:=(HU hM hi hp g hU2).2 ρ draw sl hρ hd
  obtain⟨Q',hq⟩:=hS.tell hM hi g hρ h1 h3 h4 h2.to.T
  have hU':=hU.step hρ hi (draw:=draw) (sl:=sl)
  rw [if_pos g] at hU'
  exact hK _ ⟨L',Q',h1,hq⟩ hU' rfl rfl g.symm
 ·rw [if_neg g]
  have hU':=hU.step hρ hi (draw:=draw) (sl:=sl)
  rw [if_neg g] at hU'
  exact hK _ ⟨_,_,L9 hM hi (by simpa using g),hS.rest hM hi⟩ hU' rfl rfl (by simpa using Eq.symm (by simpa using g))
theorem O8 (hM:MI S h0 n x LG)(hp:x.picks≤100000):(jN x).length≤1000000:=by
 have hpast:∀t∈x.thr,t.past.length≤100000:=fun t htm=>by
  obtain⟨i,hi,e⟩:=List.getElem_of_mem htm
  have:=(hM.thr i t (by rw [List.getElem?_eq_getElem hi,e])).b.pastn
  omega
 have hl0:(jN x).length≤_:=Jb hpast
 have hn4:=hM.set.n4
 have hlen:=hM.len
 have h2:x.thr.length*(100000+1)≤4*100001:=Nat.mul_le_mul (by omega) (by omega)
 omega
abbrev zv (g:tT):dr:={ Nf g with words:=120,writes:=20,fuel:=120 }
set_option maxHeartbeats 2000000 in
theorem Fy (ht:uz w0){g:tT}{kv pv:Value}{ks:List Int}{ps:List wv}[a1:IZ w0 kv EV ks][a2:IZ w0 pv Bp ps]
  (hs0:good KU (BC.enc g)) (hr1:∀x∈ks,good [.i .u8] (EV.enc x)) (hr2:∀x∈ps,good LW (Bp.enc x)) (hK:G w0 L (K (.bool true))) :
  G w0 L (CP Tryz.prog Xt [.agg (tT.cells g).toArray,kv,pv] K):=by
 have hk:∀k∈ks,0≤k∧k≤255:=fun k hk=>Pt (hr1 k hk).2.1
 refine FB ?_
 unfold xK
 refine G.box fun gp=>?_
 refine Kv ht ?_
 refine gu ?_
 refine gg ?_
 refine yJ (g:=g) ?_
 refine G.new fun sp=>?_
 repeat' (first | (with_reducible refine G.joini0 ?_) | (with_reducible refine G.joini1 ?_) | (with_reducible refine G.drew ?_) | (simp (maxSteps:=2000000) only [↓RG,RP,RB,BEq.rfl,Int.reduceEq,Int.reduceLT,Int.reduceLE,Nat.reduceEqDiff]))
 refine HS (ks:=ks) hk fun u rows hu hrows=>?_
 refine gg ?_
 have hr3:=hrows.few
 have hrr:BQ rows=rows:=GJ (by omega)
 refine yn (s:=zv g) (rows:=rows) (by omega) (fun r hr=>⟨(hrows.ok r hr).1,fun p hp=>((hrows.ok r hr).2 p hp).1.ok⟩) hu fun b=>?_
 rw [hrr]
 have hst:0≤(zv g).start:=by
  show 0≤g.start.tmod 1000
  exact Int.tmod_nonneg 1000 (RQ hs0.2.2.2.2.2.2.2.2.2.2.2.2.2.1).1
 have hM0:=Mc (s:=zv g) (rows:=rows) (by omega) hst fun r hr=>⟨(hrows.ok r hr).1,fun p hp=>((hrows.ok r hr).2 p hp).1.ok⟩
 have hS0:=SI.ini (s:=zv g) (rows:=rows) (by omega) (by omega) fun r hr p hp=>((hrows.ok r hr).2 p hp).1
 have hU0:=rX.new (s:=zv g) (rows:=rows) fun r hr p hp k hk=>((hrows.ok r hr).2 p hp).2 k hk
 generalize cq (zv g) rows.length=S at hM0 hS0
 rw [hr3] at hM0 hS0
 generalize tG:dc (zv g) rows=x0 at hM0 hS0 hU0 ⊢
 have hpk0:x0.picks=0:=by rw [←tG]
 obtain⟨ws,hws⟩:∃ws,x0.mem.w=ws:=⟨_,rfl⟩
 have hwl:=hM0.set
 rw [hws] at hM0 hS0 hwl
 refine gg ?_
 have hw1:32≤ws.length∧ws.length≤256:=by
  have e1:held S.words 32 256=S.words:=congrArg dr.words hwl.hs
  have e2:=eI (n:=S.words) (show (32:Int)≤256 by decide)
  have e3:=hwl.nw
  omega
 have hwS:=hwl.nw
 clear hwl
 refine tU (x:=x0) (by rw [hws];omega) fun vw hvw=>?_
 rw [hws]
 refine G.sub (L':=ob nE b x0::sl dd vw ws::L) ?_
 refine G.loop1 (σ:=Nat×io) (fun z=>i64 z.1) (fun z=>ob nE b z.2::sl dd vw ws::L) (fun z=>z.1≤100∧z.2.picks≤13*z.1∧rX z.2∧∃LG Q,MI S (fun c=>ws.getD c.toNat 0) 3 z.2 LG∧SI S (fun c=>ws.getD c.toNat 0) U4 3 z.2 LG Q) (fun z=>100-z.1) (0,x0) rfl rfl ⟨Nat.zero_le _,by simp only [hpk0];decide,hU0,_,_,hM0,hS0⟩ ?_
 rintro⟨i,x⟩ ⟨hi,hpk,hU,LG,Q,hM,hS⟩ J hJ
 simp only at hi hpk hU hM hS hJ ⊢
 by_cases c:i<ps.length
 ·have c1:(i:Int)<ps.length:=by omega
  have e:fe ps i ps[i]:=⟨List.getElem?_eq_getElem c⟩
  have hq:=hr2 _ (List.getElem_mem c)
  generalize ps[i]=q at e hq
  obtain⟨d0,d1⟩:=Pt hq.2.2.2.1
  refine gf (eq_true c1) ?_
  refine G.cond (fun h3=>?_) (fun h3=>?_)
  ·have hi3:i<100:=by simp only [decide_eq_true_eq] at h3;omega
   refine G.loop1 (σ:=Nat×io) (fun z=>i64 z.1) (fun z=>ob nE b z.2::sl dd vw ws::L) (fun z=>z.1≤13∧z.2.picks≤13*i+z.1∧rX z.2∧∃LG Q,MI S (fun c=>ws.getD c.toNat 0) 3 z.2 LG∧SI S (fun c=>ws.getD c.toNat 0) U4 3 z.2 LG Q) (fun z=>13-z.1) (0,x) rfl rfl ⟨Nat.zero_le _,by simpa using hpk,hU,_,_,hM,hS⟩ ?_
   rintro⟨k,x⟩ ⟨hk,hpk,hU,LG,Q,hM,hS⟩ J2 hJ2
   simp only at hk hpk hU hM hS hJ2 ⊢
   refine gg ?_
   refine Lm (q:=q) (by decide) (by decide) ?_
   obtain⟨w1,w2⟩:=Gt (n:=q.n) (show (0:Int)≤12 by decide)
   generalize m4 q.n 0 12=w at w1 w2 ⊢
   refine gg ?_
   refine G.cond (fun h4=>?_) (fun h4=>?_)
   ·have hk2:k<13:=by simp only [decide_eq_true_eq] at h4;omega
    refine qA (x:=x) ht (fun t htm=>?_) (by rw [hM.len];decide) fun u5 h5=>?_
    ·obtain⟨i,hi,e⟩:=List.getElem_of_mem htm
     have hT:=hM.thr i t (by rw [List.getElem?_eq_getElem hi,e])
     refine⟨by have:=hT.b.pastn;omega,fun g=>?_⟩
     obtain⟨a,ha,hA,h8,_⟩:=hT.run g
     exact⟨a,ha,hA.tol h8 ((hU.thr t htm).now a ha)⟩
    obtain⟨⟨hT,hs⟩,hin⟩:=hM.ordered
    have hl1:=O8 hM (by omega)
    rw [kT]
    intro pq ⟨hq1,hq2⟩
    have hq3:pq.length≤1000000:=by rw [←hq1,List.length_map] at hl1;exact hl1
    rw [←hq1] at hT hs hin
    repeat' (first | (with_reducible refine G.joini0 ?_) | (with_reducible refine G.joini1 ?_) | (with_reducible refine G.drew ?_) | (simp (maxSteps:=2000000) only [↓RG,RP,RB,BEq.rfl,Int.reduceEq,Int.reduceLT,Int.reduceLE,Nat.reduceEqDiff,List.length_map]))
    refine G.pickAll (As:=[ob (cd dV) () pq,sl fg u5 (pq.map fun q:fS=>q.1),sl dd vw ws]) ?_
    simp only [List.cons_append,List.nil_append]
    refine IJ (H:=Ik (fun c=>ws.getD c.toNat 0) LG) hT hq2 hq3 hw1.1 hw1.2 (fun s h1 h2=>(hs s h1 h2).2.2) (fun a ha=>by have h3:=hM.set.nw;have:=(hin a ha).2.1;intro c hc;have:=this c hc;omega) fun vh h hvh hhl hh=>?_
    repeat' (first | (with_reducible refine G.joini0 ?_) | (with_reducible refine G.joini1 ?_) | (with_reducible refine G.drew ?_) | (simp (maxSteps:=2000000) only [↓RG,RP,RB,BEq.rfl,Int.reduceEq,Int.reduceLT,Int.reduceLE,Nat.reduceEqDiff]))
    refine Od (q:=q) (by decide) (by decide) hM.len fun j hj=>?_
    refine gg ?_
    have hlt:j<x.thr.length:=by rw [hM.len];exact hj
    have hat:=List.getElem?_eq_getElem hlt
    generalize x.thr[j]=t at hat
    refine Rl ht hM hS hU (i:=j) (t:=t) (by omega) hat d0 d1 fun x' hMS' hU' hp' hlast hdid=>?_
    obtain⟨LG',Q',hM',hS'⟩:=hMS'
    repeat' (first | (with_reducible refine G.joini0 ?_) | (with_reducible refine G.joini1 ?_) | (with_reducible refine G.drew ?_) | (simp (maxSteps:=2000000) only [↓RG,RP,RB,BEq.rfl,Int.reduceEq,Int.reduceLT,Int.reduceLE,Nat.reduceEqDiff]))
    refine Ep (x:=x') ?_
    rw [hlast,hdid]
    refine gg ?_
    refine G.new fun lp=>?_
    have hnext:G w0 (ob nE b x'::sl dd vw ws::L) (J2 (i64 (IntKind.wrap .i64 ((k:Int)+1)))):=by
     rw [dx (by omega)]
     exact hJ2 (k+1,x') ⟨hk2,by simp only;omega,hU',_,_,hM',hS'⟩ (by simp only;omega)
    have hSf:∃σ,Fm (Ik (fun c=>ws.getD c.toNat 0) LG) σ∧((az t).1.kind=1∨(az t).1.kind=2→∀c,1≤c→c≤4→∀b∈σ.fl c,¬(b<(az t).1.place∧(az t).1.place<b+yE c)):=by
     by_cases g:(az t).1.kind=1∨(az t).1.kind=2
     ·obtain⟨σ,s1,s2⟩:=hS.safe hM hat g
      exact⟨σ,s1,fun _=>s2⟩
     ·obtain⟨σ,s1⟩:=hS.arena
      exact⟨σ,s1,fun h=>absurd h g⟩
    obtain⟨σ,hσ,hsf⟩:=hSf
    generalize az t=nx at hsf
    obtain⟨o,did⟩:=nx
    simp only at hsf
    cases did
    ·refine gg ?_
     exact hnext.sub
    ·refine gg ?_
     refine Ij (w:=h) (o:=o) (by omega) (by omega) hσ.ar (by rw [hhl];exact hh) hsf ?_
     refine gg ?_
     exact hnext.sub
   ·repeat' (first | (with_reducible refine G.joini0 ?_) | (with_reducible refine G.joini1 ?_) | (with_reducible refine G.drew ?_) | (simp (maxSteps:=2000000) only [↓RG,RP,RB,BEq.rfl,Int.reduceEq,Int.reduceLT,Int.reduceLE,Nat.reduceEqDiff]))
    rw [dx (by omega)]
    exact(hJ (i+1,x) ⟨hi3,by simp only;omega,hU,_,_,hM,hS⟩ (by simp only;omega)).sub
  ·repeat' (first | (with_reducible refine G.joini0 ?_) | (with_reducible refine G.joini1 ?_) | (with_reducible refine G.drew ?_) | (simp (maxSteps:=2000000) only [↓RG,RP,RB,BEq.rfl,Int.reduceEq,Int.reduceLT,Int.reduceLE,Nat.reduceEqDiff]))
   exact hK.sub
 ·have c1:¬(i:Int)<ps.length:=by omega
  refine gf c1 ?_
  exact hK.sub
end
end Go.Proofs.YtoealglbimbbmaaGreatDoor.S
