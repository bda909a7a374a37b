import Derived.Test.YtoealglbimbbmaaGreatDoorOMac
import Derived.Test.YtoealglbimbbmaaGreatDoorOPl
import Derived.Test.YtoealglbimbbmaaGreatDoorOPq
import Derived.Test.YtoealglbimbbmaaGreatDoorOPr
namespace Go.Proofs.YtoealglbimbbmaaGreatDoor.S
open Go Go.Proofs
set_option linter.unusedVariables false
set_option linter.unusedSimpArgs false
section
variable {α:Type}{E:jS α}{w0:bh}{L:List ay}{v:Value}{xs:List α}{w:World}{C:ay→List ay}{K:KV}{sz:Nat}
theorem fy.sub {c n cap l h:Nat}(H:fy E w (.slice (some ⟨c,0,none⟩) n cap) xs)(hl:l≤h)(hh:h≤xs.length)(hcap:xs.length≤cap) :
  fy E w (.slice (if cap=l then some ⟨c,0,none⟩ else some ⟨c,l*E.sz,none⟩) (h-l) (cap-l)) ((xs.take h).drop l):=by
 obtain⟨oa,cp,h1,h2,h3⟩:=H
 have e1:oa=some ⟨c,0,none⟩:=by injection h1 with g1 g2 g3;exact g1.symm
 subst e1
 have hlen:((xs.take h).drop l).length=h-l:=by rw [List.length_drop,List.length_take];omega
 by_cases hc:cap=l
 ·rw [if_pos hc,←hlen]
  refine⟨_,_,rfl,by simp,fun i x hx=>?_⟩
  exfalso
  have:=(List.getElem?_eq_some_iff.1 hx).1
  omega
 ·rw [if_neg hc,←hlen]
  refine⟨_,_,rfl,by simp,fun i x hx=>?_⟩
  rw [List.getElem?_drop,List.getElem?_take] at hx
  split at hx
  ·obtain⟨e,o,cs,g1,g2,g3,g4⟩:=h3 _ _ hx
   injection g1 with g1
   injection g1 with q1 q2
   subst q1
   subst q2
   rw [Nat.zero_add] at g3 g4
   refine⟨c,l*E.sz,cs,rfl,g2,?_,?_⟩
   ·rw [←Nat.add_mul];rw [Nat.add_assoc] at g3;exact g3
   ·rw [←Nat.add_mul];exact g4
  ·cases hx
end
theorem G.partO {α:Type}{E:jS α}{w0:bh}{L:List ay}{C:ay→List ay}{v:Value}{xs:List α}{K:KV}{sz m n:Nat}{lo hi:Option Value}[s:oL L v E xs C](hz:E.sz=sz)(hlo:Aw lo 0=some (m:Int))(hhi:Aw hi xs.length=some (n:Int))(hm:m≤n)(hn:n≤xs.length)
  (H:∀y,ar y [y]→Rd w0 L y E sz ((xs.take n).drop m)→G w0 L (K y)):G w0 L (fL sz v lo hi K):=fun w hw=>by
 subst hz
 obtain⟨M,e1,e2⟩:=oo (w0:=w0) s.sel
 rcases((e1 w).1 hw).sl_cases with ⟨rfl,rfl,H2⟩ | ⟨c,cap,rest,rfl,g2,g3,H2⟩
 ·simp only [List.length_nil] at hn hhi
  have e3:n=0:=by omega
  have e4:m=0:=by omega
  subst e3
  subst e4
  have hy:Rd w0 L (.slice none 0 0) E E.sz ((([]:List α).take 0).drop 0):=⟨rfl,fun w _=>⟨none,0,rfl,fun _=>⟨rfl,rfl⟩,fun i x hx=>by simp at hx⟩⟩
  have:=H _ be hy w hw
  simp only [fL,hlo,hhi]
  simpa using this
 ·have hy:Rd w0 L (.slice (if cap=m then some ⟨c,0,none⟩ else some ⟨c,m*E.sz,none⟩) (n-m) (cap-m)) E E.sz ((xs.take n).drop m):=⟨rfl,fun w' hw'=>(((e1 w').1 hw').sl_is).sub hm hn g2⟩
  have:=H _ be hy w hw
  simp only [fL,hlo,hhi]
  refine⟨by omega,by omega,by omega,?_⟩
  have ea:(if cap=((m:Int)).toNat then some (⟨c,0,none⟩:Addr) else Option.map (fun x=>x.add (((m:Int)).toNat*E.sz)) (some (⟨c,0,none⟩:Addr)))=(if cap=m then some ⟨c,0,none⟩ else some ⟨c,m*E.sz,none⟩):=by
   rw [Int.toNat_natCast]
   split
   ·rfl
   ·simp only [Option.map_some,Addr.add]
    split
    ·rename_i e;rw [e]
    ·simp
  rw [ea,show ((n:Int)).toNat-((m:Int)).toNat=n-m by simp,show cap-((m:Int)).toNat=cap-m by simp]
  exact this
def p9 (l:List gd)(k:Nat):Ta:=match l[k]? with
 | some q=>q.2.1
 | none=>⟨0,false,[],0,0,[],0⟩
theorem nT {l:List gd}{k:Nat}{q:gd}(h:l[k]? = some q):p9 l k=q.2.1:=by unfold p9;rw [h]
structure Jr (l:List gd)(i:Nat)(o:List Nat):Prop where
 mem:∀k,k∈o↔k<i
 len:o.length=i
 srt:vS (o.map (p9 l))
theorem Jr.lt {l:List gd}{i:Nat}{o:List Nat}(h:Jr l i o){p:Nat}(hp:p<o.length):o[p]<i:=(h.mem _).1 (List.getElem_mem hp)
theorem Jr.put {l:List gd}{i k:Nat}{o:List Nat}(h:Jr l i o)(hk:k≤i)(h1:∀p (hp:p<o.length),k≤p→(p9 l i).less (p9 l o[p])=true)(h2:∀(hp:k-1<o.length),0<k→(p9 l o[k-1]).less (p9 l i)=true):Jr l (i+1) (o.take k++[i]++o.drop k):=by
 have hl:=h.len
 refine⟨fun j=>?_,by simp;omega,?_⟩
 ·have:=h.mem j
  have e:j∈o↔j∈o.take k∨j∈o.drop k:=by rw [←List.mem_append,List.take_append_drop]
  simp only [List.mem_append,List.mem_singleton]
  rw [e] at this
  constructor
  ·rintro((g | g) | g)
   ·have:=this.1 (.inl g);omega
   ·omega
   ·have:=this.1 (.inr g);omega
  ·intro g
   by_cases c:j=i
   ·exact .inl (.inr c)
   ·rcases this.2 (by omega) with g | g
    ·exact .inl (.inl g)
    ·exact .inr g
 ·have hs:=h.srt
  rw [←List.take_append_drop k o,List.map_append] at hs
  have hs2:=List.pairwise_append.1 hs
  rw [List.map_append,List.map_append,List.append_assoc]
  refine List.pairwise_append.2 ⟨hs2.1,List.pairwise_cons.2 ⟨fun b hb=>?_,hs2.2.1⟩,fun a ha b hb=>?_⟩
  ·obtain⟨j,hj,rfl⟩:=List.mem_map.1 hb
   obtain⟨p,hp,e⟩:=List.getElem_of_mem hj
   rw [List.getElem_drop] at e
   rw [←e]
   exact h1 _ (by simp at hp;omega) (by omega)
  ·rcases List.mem_cons.1 hb with rfl | hb
   ·
    obtain⟨j,hj,rfl⟩:=List.mem_map.1 ha
    obtain⟨p,hp,e⟩:=List.getElem_of_mem hj
    have hp2:p<k∧p<o.length:=by simp at hp;omega
    rw [List.getElem_take] at e
    rw [←e]
    have hlast:=h2 (by omega) (by omega)
    by_cases c:p=k-1
    ·subst c;exact hlast
    ·refine Ga ?_ hlast
     have:=List.pairwise_iff_getElem.1 h.srt p (k-1) (by simp;omega) (by simp;omega) (by omega)
     simpa using this
   ·exact hs2.2.2 a ha b hb
theorem AG.at_ {l:List gd}{i j:Nat}(h:AG (l.map (·.2.1)))(hi:i<l.length)(hj:j<i):(p9 l i).less (p9 l j)=true∨(p9 l j).less (p9 l i)=true:=by
 have:=List.pairwise_iff_getElem.1 h j i (by simp;omega) (by simp;omega) hj
 rw [nT (List.getElem?_eq_getElem hi),nT (List.getElem?_eq_getElem (show j<l.length by omega))]
 simp only [List.getElem_map] at this
 exact this.symm
theorem HG:∀{s:List Ta}(_:Cy s){i k:Nat}(hi:i<s.length)(hk:k<i),¬(0<s[i].ended∧s[i].ended<(s[k]'(by omega)).born)
 | [],_,i,k,hi,_=>by cases hi
 | b::l,h,0,k,_,hk=>by omega
 | b::l,h,i+1,0,hi,_=>h.1 _ (List.getElem_mem (by simpa using hi))
 | b::l,h,i+1,k+1,hi,hk=>HG h.2 (by simpa using hi) (by omega)
section
variable {w0:bh}{L M:List ay}{K:KV}{F:World→Prop}{C:ay→List ay}{b:Nat}{v:Value}{l:List gd}{q1 q2:gd}{i j:Nat}
theorem rS {e:sL}{cs:List au}(r:Rd w0 L e.cells_.v bf 2 cs)(hK:G w0 L (K (.bool (decide (e.kind=2) && !cs.isEmpty)))):G w0 L (CP Tryz.prog Vx [.agg (sL.cells e).toArray] K):=by
 refine Gp ?_
 unfold zr
 refine G.box fun q=>?_
 refine gu ?_
 by_cases c:e.kind=2
 ·have e2:(decide (e.kind=2) && !cs.isEmpty)=decide (0<(cs.length:Int)):=by
   rw [decide_eq_true c];cases cs <;> simp [show ∀n:Nat,(0:Int)<n+1 from fun n=>by omega]
  rw [e2] at hK
  refine gf (eq_true c) ?_
  exact hK.sub
 ·rw [decide_eq_false c] at hK
  refine gf c ?_
  exact hK.sub
theorem H9 (h1:l[i]? = some q1)(h2:l[j]? = some q2)(o1:tm q1)(o2:tm q2)(hK:G w0 (ob (cg eu) () l::M) (K (.bool (q1.2.1.less q2.2.1)))):G w0 (ob (cg eu) () l::M) (CP Tryz.prog WS [.agg (sL.cells q1.1).toArray,.agg (sL.cells q2.1).toArray] K):=by
 have r1:=(DY (w0:=w0) (M:=M) h1).2.1
 have r2:=(DY (w0:=w0) (M:=M) h2).2.1
 refine Jh ?_
 unfold AH
 refine G.box fun p1=>?_
 refine G.box fun p2=>?_
 have w1:(decide (q1.1.kind=2) && !q1.2.1.cells.isEmpty)=q1.2.1.wrote:=by rw [o1.done];rfl
 have w2:(decide (q2.1.kind=2) && !q2.2.1.cells.isEmpty)=q2.2.1.wrote:=by rw [o2.done];rfl
 unfold Ta.less at hK
 rw [←o1.stamp,←o2.stamp,←o1.born,←o2.born] at hK
 by_cases c:q1.1.stamp=q2.1.stamp
 ·rw [if_pos c] at hK
  repeat' (first | (with_reducible refine G.joini0 ?_) | (with_reducible refine G.joini1 ?_) | (with_reducible refine G.drew ?_) | (simp (maxSteps:=2000000) only [↓RG,RP,RB,BEq.rfl,Int.reduceEq,Int.reduceLT,Int.reduceLE,Nat.reduceEqDiff,eq_true c]))
  refine rS (cs:=q1.2.1.cells) inferInstance ?_
  rw [w1]
  refine gg ?_
  refine rS (cs:=q2.2.1.cells) inferInstance ?_
  rw [w2]
  refine gg ?_
  refine G.cond (fun h=>?_) (fun h=>?_)
  ·have hne:¬q1.2.1.wrote=q2.2.1.wrote:=by simpa using h
   rw [if_neg hne] at hK
   refine gg ?_
   refine rS (cs:=q1.2.1.cells) inferInstance ?_
   rw [w1]
   exact hK.sub
  ·have he:q1.2.1.wrote=q2.2.1.wrote:=by simpa using h
   rw [if_pos he] at hK
   refine gg ?_
   exact hK.sub
 ·rw [if_neg c] at hK
  refine gf c ?_
  exact hK.sub
theorem yP (ht:AG (l.map (·.2.1)))(ho:∀p∈l,tm p)(hl:l.length≤1000000)(hK:∀u o,ar u [u]→Jr l l.length o→G w0 (sl bg u (o.map fun k:Nat=>(k:Int))::ob (cg eu) () l::sl fg v (l.map (·.1))::M) (K u)) :
  G w0 (ob (cg eu) () l::sl fg v (l.map (·.1))::M) (CP Tryz.prog VV [v] K):=by
 refine Gk ?_
 unfold zk
 refine G.nilsl bg ?_
 refine G.loop2 (σ:=Nat×List Nat×Value) (fun z=>z.2.2) (fun z=>i64 z.1) (fun z=>sl bg z.2.2 (z.2.1.map fun k:Nat=>(k:Int))::ob (cg eu) () l::sl fg v (l.map (·.1))::M) (fun z=>z.1≤l.length∧Jr l z.1 z.2.1∧ar z.2.2 [z.2.2]) (fun z=>l.length-z.1) (0,[],.slice none 0 0) rfl rfl rfl ⟨Nat.zero_le _,⟨by simp,rfl,List.Pairwise.nil⟩,be⟩ ?_
 rintro⟨i,o,u⟩ ⟨hi,hO,hu⟩ J hJ
 simp only at hi hO hu hJ ⊢
 have hol:=hO.len
 refine gr ?_
 refine G.cond (fun h=>?_) (fun h=>?_)
 ·have hi2:i<l.length:=by simpa using h
  have hin:l[i]? = some l[i]:=List.getElem?_eq_getElem hi2
  have e:eU (l.map (·.1)) i l[i].1:=⟨by rw [List.getElem?_map,hin];rfl⟩
  refine G.joini1 ?_
  refine gr ?_
  refine G.loop1 (fun k:Nat=>i64 k) (fun k=>sl bg u (o.map fun k:Nat=>(k:Int))::ob (cg eu) () l::sl fg v (l.map (·.1))::M) (fun k=>k≤i∧∀p (hp:p<o.length),k≤p→(p9 l i).less (p9 l o[p])=true) (fun k=>k) i (by simp [hol]) rfl ⟨Nat.le_refl _,fun p hp g=>by omega⟩ ?_
  intro k ⟨hk,hge⟩ J2 hJ2
  have hfin:(∀(hp:k-1<o.length),0<k→(p9 l o[k-1]).less (p9 l i)=true)→G w0 (sl bg u (o.map fun k:Nat=>(k:Int))::ob (cg eu) () l::sl fg v (l.map (·.1))::M) (fL 1 u none (some (i64 k)) fun x25=>fL 1 u (some (i64 k)) none fun x26 =>
    andP (av 1 8 (.slice none 0 0) x25 fun x27=>ak [i64 0] 1 [(0,1,i64 i)] fun x28=>av 1 8 x27 x28 fun x29=>av 1 8 x29 x26 fun x30=>J x30 (i64 (IntKind.wrap .i64 ((i:Int)+1))))
     (ak [i64 0] 1 [(0,1,i64 i)] fun x31=>av 1 8 (.slice none 0 0) x25 fun x32=>av 1 8 x32 x31 fun x29=>av 1 8 x29 x26 fun x30=>J x30 (i64 (IntKind.wrap .i64 ((i:Int)+1))))):=fun h2=>by
   have hml:(o.map fun k:Nat=>(k:Int)).length=i:=by simp [hol]
   have hput:=hO.put hk hge h2
   have hfin2:∀(u3:Value) (N:List ay),ar u3 [u3]→(∀F,G w0 (sl bg u3 ((o.take k++[i]++o.drop k).map fun k:Nat=>(k:Int))::ob (cg eu) () l::sl fg v (l.map (·.1))::M) F→G w0 N F)→G w0 N (J u3 (i64 (IntKind.wrap .i64 ((i:Int)+1)))):=fun u3 N h3 hs=>by
    rw [di (by omega)]
    exact hs _ (hJ (i+1,o.take k++[i]++o.drop k,u3) ⟨hi2,hput,h3⟩ (by simp only;omega))
   have eL:[]++((o.map fun k:Nat=>(k:Int)).take k).drop 0++[(i:Int)]++((o.map fun k:Nat=>(k:Int)).take i).drop k=(o.take k++[i]++o.drop k).map fun k:Nat=>(k:Int):=by
    rw [List.take_of_length_le (l:=o.map fun k:Nat=>(k:Int)) (i:=i) (by omega)]
    simp
   refine G.partO (v:=u) (m:=0) (n:=k) rfl rfl rfl (Nat.zero_le _) (by omega) fun y hy r1=>?_
   refine G.partO (v:=u) (m:=k) (n:=i) rfl rfl (by rw [hml];rfl) hk (by omega) fun y2 hy2 r2=>?_
   refine G.andP ?_ ?_
   ·refine G.nilsl bg ?_
    refine G.append (x:=y) (v:=.slice none 0 0) (xs:=[]) (by simp;omega) (by simp [maxLen];omega) fun u1 h1=>?_
    refine G.build bg [(i:Int)] rfl (by decide) rfl fun y3 h3=>?_
    refine G.append (v:=u1) (ys:=[(i:Int)]) (by simp;omega) (by simp [maxLen];omega) fun u2 h2=>?_
    refine G.append (x:=y2) (v:=u2) (by simp;omega) (by simp [maxLen];omega) fun u3 h3=>?_
    refine hfin2 u3 _ h3 fun F hF=>?_
    rw [eL]
    exact hF.sub
   ·refine G.build bg [(i:Int)] rfl (by decide) rfl fun y3 h3=>?_
    refine G.nilsl bg ?_
    refine G.append (x:=y) (v:=.slice none 0 0) (xs:=[]) (by simp;omega) (by simp [maxLen];omega) fun u1 h1=>?_
    refine G.append (v:=u1) (ys:=[(i:Int)]) (by simp;omega) (by simp [maxLen];omega) fun u2 h2=>?_
    refine G.append (x:=y2) (v:=u2) (by simp;omega) (by simp [maxLen];omega) fun u3 h3=>?_
    refine hfin2 u3 _ h3 fun F hF=>?_
    rw [eL]
    exact hF.sub
  by_cases k0:k=0
  ·subst k0
   have c0:¬(0:Int)<((0:Nat):Int):=by simp
   refine gu ?_
   repeat' (first | (with_reducible refine G.joini0 ?_) | (with_reducible refine G.joini1 ?_) | (with_reducible refine G.drew ?_) | (simp (maxSteps:=2000000) only [↓RG,RP,RB,BEq.rfl,Int.reduceEq,Int.reduceLT,Int.reduceLE,Nat.reduceEqDiff,c0]))
   exact hfin (fun _ g=>absurd g (by decide))
  ·have c0:(0:Int)<(k:Int):=by omega
   have hk1:k-1<o.length:=by omega
   have ej:(o.map fun k:Nat=>(k:Int))[k-1]? = some ((o[k-1]:Nat):Int):=by rw [List.getElem?_map,List.getElem?_eq_getElem hk1];rfl
   have e2:eU (o.map fun k:Nat=>(k:Int)) (k-1) ((o[k-1]:Nat):Int):=⟨ej⟩
   have hjl:=hO.lt hk1
   have hjn:l[o[k-1]]? = some l[o[k-1]]:=List.getElem?_eq_getElem (by omega)
   have e3:eU (l.map (·.1)) o[k-1] l[o[k-1]].1:=⟨by rw [List.getElem?_map,hjn];rfl⟩
   have ew:IntKind.wrap .i64 ((k:Int)-1)=((k-1:Nat):Int):=by rw [iy (by omega) (by omega)];omega
   refine gu ?_
   repeat' (first | (with_reducible refine G.joini0 ?_) | (with_reducible refine G.joini1 ?_) | (with_reducible refine G.drew ?_) | (simp (maxSteps:=2000000) only [↓RG,RP,RB,BEq.rfl,Int.reduceEq,Int.reduceLT,Int.reduceLE,Nat.reduceEqDiff,eq_true c0,ew]))
   refine G.pickAll (As:=[ob (cg eu) () l]) ?_
   simp only [List.cons_append,List.nil_append]
   refine H9 hin hjn (ho _ (List.getElem_mem _)) (ho _ (List.getElem_mem _)) ?_
   have et:(l[i].2.1.less l[o[k-1]].2.1)=(p9 l i).less (p9 l o[k-1]):=by rw [nT hin,nT hjn]
   rw [et]
   refine G.cond (fun hl2=>?_) (fun hl2=>?_)
   ·exact(hJ2 (k-1) ⟨by omega,fun p hp g=>by
     by_cases c:p=k-1
     ·subst c;exact hl2
     ·exact hge p hp (by omega)⟩ (by omega)).sub
   ·refine G.drew ?_
    refine G.sub (hfin fun hp _=>?_)
    rcases AG.at_ ht hi2 hjl with g | g
    ·rw [g] at hl2;cases hl2
    ·exact g
 ·have hi2:i=l.length:=by
   have:¬i<l.length:=by simpa using h
   omega
  subst hi2
  refine gr ?_
  exact(hK u o hu hO).sub
end
end Go.Proofs.YtoealglbimbbmaaGreatDoor.S
namespace Go.Proofs.YtoealglbimbbmaaGreatDoor.S
open Go Go.Proofs
set_option linter.unusedVariables false
set_option linter.unusedSimpArgs false
section
variable {w0:bh}{L M:List ay}{K:KV}{F:World→Prop}{C:ay→List ay}{b:Nat}{v:Value}{l:List gd}{q1 q2:gd}{i j:Nat}
theorem Jr.row {o:List Nat}(h:Jr l l.length o):vS (o.map (p9 l))∧∀a,a∈o.map (p9 l)↔a∈l.map (·.2.1):=by
 refine⟨h.srt,fun a=>?_⟩
 simp only [List.mem_map]
 constructor
 ·rintro⟨k,hk,rfl⟩
  have:=(h.mem k).1 hk
  exact⟨l[k],List.getElem_mem _,(nT (List.getElem?_eq_getElem this)).symm⟩
 ·rintro⟨q,hq,rfl⟩
  obtain⟨k,hk,e⟩:=List.getElem_of_mem hq
  exact⟨k,(h.mem k).2 hk,by rw [nT (List.getElem?_eq_getElem hk),e]⟩
theorem Gm (ht:AG (l.map (·.2.1)))(ho:∀p∈l,tm p)(hl:l.length≤1000000)(hk:∀s,vS s→(∀a,a∈s↔a∈l.map (·.2.1))→Cy s)(hK:G w0 (ob (cg eu) () l::sl fg v (l.map (·.1))::M) (K (.bool true))) :
  G w0 (ob (cg eu) () l::sl fg v (l.map (·.1))::M) (CP Tryz.prog WT [v] K):=by
 refine Gr ?_
 unfold yR
 refine yP ht ho hl fun u o hu hO=>?_
 have hol:=hO.len
 obtain⟨hs1,hs2⟩:=hO.row
 have hkp:=hk _ hs1 hs2
 refine G.loop1 (fun i:Nat=>i64 i) (fun _=>sl bg u (o.map fun k:Nat=>(k:Int))::ob (cg eu) () l::sl fg v (l.map (·.1))::M) (fun i=>i≤o.length) (fun i=>o.length-i) 0 rfl rfl (Nat.zero_le _) ?_
 intro i hi J hJ
 refine gr ?_
 refine G.cond (fun h=>?_) (fun h=>?_)
 ·have hi2:i<o.length:=by simpa using h
  refine gr ?_
  refine G.loop1 (fun k:Nat=>i64 k) (fun _=>sl bg u (o.map fun k:Nat=>(k:Int))::ob (cg eu) () l::sl fg v (l.map (·.1))::M) (fun k=>k≤i) (fun k=>i-k) 0 rfl rfl (Nat.zero_le _) ?_
  intro k hk2 J2 hJ2
  refine gr ?_
  refine G.cond (fun h=>?_) (fun h=>?_)
  ·have hk3:k<i:=by simpa using h
   have ex:∀p (hp:p<o.length),(o.map fun k:Nat=>(k:Int))[p]? = some ((o[p]:Nat):Int):=fun p hp=>by rw [List.getElem?_map,List.getElem?_eq_getElem hp];rfl
   have e1:eU (o.map fun k:Nat=>(k:Int)) i ((o[i]:Nat):Int):=⟨ex i hi2⟩
   have e2:eU (o.map fun k:Nat=>(k:Int)) k ((o[k]:Nat):Int):=⟨ex k (by omega)⟩
   have i1:=hO.lt hi2
   have i2:=hO.lt (show k<o.length by omega)
   have g1:l[o[i]]? = some l[o[i]]:=List.getElem?_eq_getElem i1
   have g2:l[o[k]]? = some l[o[k]]:=List.getElem?_eq_getElem i2
   have e3:eU (l.map (·.1)) o[i] l[o[i]].1:=⟨by rw [List.getElem?_map,g1];rfl⟩
   have e4:eU (l.map (·.1)) o[k] l[o[k]].1:=⟨by rw [List.getElem?_map,g2];rfl⟩
   have hne:=HG hkp (i:=i) (k:=k) (by simpa using hi2) hk3
   simp only [List.getElem_map] at hne
   rw [nT g1,nT g2,←(ho _ (List.getElem_mem i1)).ended,←(ho _ (List.getElem_mem i2)).born] at hne
   have hw:IntKind.wrap .i64 ((k:Int)+1)=((k+1:Nat):Int):=by rw [di (by omega)]
   refine gu ?_
   repeat' (first | (with_reducible refine G.joini0 ?_) | (with_reducible refine G.joini1 ?_) | (with_reducible refine G.drew ?_) | (simp (maxSteps:=2000000) only [↓RG,RP,RB,BEq.rfl,Int.reduceEq,Int.reduceLT,Int.reduceLE,Nat.reduceEqDiff]))
   constructor
   all_goals
    refine G.new fun p1=>?_
    refine gg ?_
    refine G.new fun p2=>?_
    refine gg ?_
    by_cases c:0<l[o[i]].1.ended
    ·refine gf (eq_true c) ?_
     have c2:¬l[o[i]].1.ended<l[o[k]].1.born:=fun g=>hne ⟨c,g⟩
     refine gf (an c2 hw) ?_
     exact(hJ2 (k+1) hk3 (by omega)).sub
    ·refine gf (an c hw) ?_
     exact(hJ2 (k+1) hk3 (by omega)).sub
  ·have hk3:k=i:=by
    have:¬k<i:=by simpa using h
    omega
   subst hk3
   refine gr ?_
   rw [di (by omega)]
   exact(hJ (k+1) hi2 (by omega)).sub
 ·refine gr ?_
  exact hK.sub
abbrev UA:jS (lD×lD):=⟨2,fun p=>[p.1.v,p.2.v],fun | [.slice a b c,.slice d e f]=>some (⟨a,b,c⟩,⟨d,e,f⟩) | _=>none,by decide,fun _=>rfl,by simp [one],fun cs a h=>by split at h <;> cases h;rfl⟩
theorem CG {m:Int}(hK:∀b,G w0 L (K (ptr b 0))):G w0 L (CP Tryz.prog WU [i64 m] K):=by
 refine B2 ?_
 unfold ti
 refine gu ?_
 refine G.drew ?_
 refine G.andP ?_ ?_
 ·refine xy ?_
  refine gr ?_
  refine G.make (n:=1) UA (⟨none,0,0⟩,⟨none,0,0⟩) rfl (by decide) (by decide) fun u hu=>?_
  refine gg ?_
  refine G.box fun q=>?_
  exact(hK q).sub
 ·refine G.make (n:=1) UA (⟨none,0,0⟩,⟨none,0,0⟩) rfl (by decide) (by decide) fun u hu=>?_
  refine xy ?_
  refine gg ?_
  refine G.box fun q=>?_
  exact(hK q).sub
theorem Eh {n:Nat}{m:Int}(h1:32≤n)(h2:n≤256)(hK:∀b p,G w0 (own b [i64 n,.slice none 0 0,ptr p 0,i64 0]::L) (K (ptr b 0))):G w0 L (CP Tryz.prog WV [i64 n,i64 m] K):=by
 refine ES ?_
 unfold wR
 refine xy ?_
 rw [show held (n:Int) 32 256=n by unfold held;rw [if_neg (by omega),if_neg (by omega)]]
 refine CG fun p=>?_
 refine gg ?_
 refine G.box fun q=>?_
 exact(hK q p).sub
def mj (ws:List Int)(i:Nat):List au:=(List.range (i-1)).map fun k=>⟨(k+1:Nat),ws.getD (k+1) 0⟩
theorem FR {ws:List Int}{i:Nat}:(mj ws i).length=i-1:=by simp [mj]
theorem Kx {ws:List Int}{i:Nat}(h:1≤i):mj ws (i+1)=mj ws i++[⟨i,ws.getD i 0⟩]:=by
 obtain⟨k,rfl⟩:∃k,i=k+1:=⟨i-1,by omega⟩
 unfold mj
 rw [show k+1+1-1=k+1 by omega,show k+1-1=k by omega,List.range_succ,List.map_append]
 rfl
theorem Rd.pre {α:Type}{E:jS α}{sz:Nat}{xs:List α}(r:Rd w0 L v E sz xs):∀N:List ay,Rd w0 (N++L) v E sz xs
 | []=>r
 | X::N=>have:=Rd.pre r N;@Rd.tl _ _ _ _ _ _ X _ this
theorem H7 {ws:List Int}{m:Int}[r:Rd w0 L v cx 1 ws](h1:32≤ws.length)(h2:ws.length≤256)(hK:∀b p u,ar u [u]→G w0 (own b [i64 ws.length,u,ptr p 0,i64 0]::sl bf u (mj ws ws.length)::L) (K (ptr b 0))):G w0 L (CP Tryz.prog WW [v,i64 m] K):=by
 refine IR ?_
 unfold AD
 refine gr ?_
 refine Eh h1 h2 fun b p=>?_
 refine G.nilsl bf ?_
 refine G.loop1 (σ:=Nat×Value) (fun s=>i64 s.1) (fun s=>sl bf s.2 (mj ws s.1)::own b [i64 ws.length,s.2,ptr p 0,i64 0]::L) (fun s=>1≤s.1∧s.1≤ws.length∧ar s.2 [s.2]) (fun s=>ws.length-s.1) (1,.slice none 0 0) rfl rfl ⟨Nat.le_refl _,by omega,be⟩ ?_
 rintro⟨i,u⟩ ⟨hi1,hi2,hu⟩ J hJ
 simp only at hi1 hi2 hu hJ ⊢
 by_cases c:i<ws.length
 ·have c0:(i:Int)<ws.length:=by omega
  have e:eU ws i (ws.getD i 0):=⟨by rw [List.getD_eq_getElem?_getD,List.getElem?_eq_getElem c];rfl⟩
  repeat' (first | (with_reducible refine G.joini0 ?_) | (with_reducible refine G.joini1 ?_) | (with_reducible refine G.drew ?_) | (simp (maxSteps:=2000000) only [↓RG,RP,RB,BEq.rfl,Int.reduceEq,Int.reduceLT,Int.reduceLE,Nat.reduceEqDiff,eq_true c0]))
  refine G.build bf [⟨(i:Int),ws.getD i 0⟩] rfl (by decide) rfl fun y hy=>?_
  have hlen:=FR (ws:=ws) (i:=i)
  refine G.append (v:=u) (ys:=[(⟨(i:Int),ws.getD i 0⟩:au)]) (by simp;omega) (by simp [maxLen];omega) fun u2 h2=>?_
  refine gg ?_
  rw [di (by omega),←Kx hi1]
  exact(hJ (i+1,u2) ⟨by omega,c,h2⟩ (by simp only;omega)).sub
 ·have hi:i=ws.length:=by omega
  subst hi
  have c0:¬(ws.length:Int)<ws.length:=by omega
  refine gf c0 ?_
  exact(hK b p u hu).sub
def Pf (h:List Int)(cs:List au):List Int:=cs.foldl (fun h c=>h.set c.place.toNat c.word) h
theorem MQ {cs:List au}:∀{h:List Int},(Pf h cs).length=h.length:=by
 induction cs with
 | nil=>intro h;rfl
 | cons c cs ih=>intro h;show (Pf (h.set c.place.toNat c.word) cs).length=_;rw [ih,List.length_set]
theorem Tv {cs:List au}{n:Nat}:∀{h:List Int}{H:Hp},h.length=n→(∀c∈cs,1≤c.place∧c.place<n)→(∀d:Int,1≤d→d<n→h.getD d.toNat 0=H d)→∀d:Int,1≤d→d<n→(Pf h cs).getD d.toNat 0=IG H cs d:=by
 induction cs with
 | nil=>intro h H _ _ hH;exact hH
 | cons c cs ih =>
  intro h H hl hc hH
  have hcc:=hc c List.mem_cons_self
  refine ih (h:=h.set c.place.toNat c.word) (H:=tP H c.place c.word) (by rw [List.length_set];exact hl) (fun x hx=>hc x (List.mem_cons_of_mem _ hx)) fun d h1 h2=>?_
  unfold tP
  rw [List.getD_eq_getElem?_getD,List.getElem?_set]
  by_cases e:d=c.place
  ·subst e
   rw [if_pos rfl,if_pos rfl,if_pos (by omega)];rfl
  ·rw [if_neg (by omega),if_neg e,←List.getD_eq_getElem?_getD]
   exact hH d h1 h2
theorem F1 {n:Int}{c:Int}{u p q:Value}(h1:1≤c)(h2:c<n)(hK:G w0 (own b [i64 n,u,p,q]::L) (K (.bool true))):G w0 (own b [i64 n,u,p,q]::L) (CP Tryz.prog WX [ptr b 0,i64 c] K):=by
 refine Fi ?_
 unfold wy
 have g:c ≥ 1:=h1
 refine gu ?_
 refine gf (an (eq_true h1) (eq_true h2)) ?_
 exact hK.sub
theorem yF {ws:List Int}{cs:List au}{vc:Value}[r:Rd w0 L v cx 1 ws][rc:Rd w0 L vc bf 2 cs](h1:32≤ws.length)(h2:ws.length≤256)(hc:∀c∈cs,1≤c.place∧c.place<ws.length)(hcl:cs.length≤1000)(hK:∀u,ar u [u]→G w0 (sl cx u (Pf (ws.set 0 0) cs)::L) (K u)):G w0 L (CP Tryz.prog VW [v,vc] K):=by
 refine G4 ?_
 unfold yU
 refine H7 (ws:=ws) h1 h2 fun b p u hu=>?_
 refine gg ?_
 refine G.make (n:=ws.length) cx 0 rfl (by simp [maxLen];omega) (by omega) fun u5 h5=>?_
 have hwl:(mj ws ws.length).length=ws.length-1:=FR
 refine G.loop1 (σ:=Nat×List Int) (fun s=>i64 s.1) (fun s=>sl cx u5 s.2::own b [i64 ws.length,u,ptr p 0,i64 0]::sl bf u (mj ws ws.length)::L) (fun s=>s.1≤ws.length-1∧s.2.length=ws.length∧∀k,s.2[k]? = if k<ws.length then some (if 1≤k∧k≤s.1 then ws.getD k 0 else 0) else none) (fun s=>ws.length-s.1) (0,List.replicate ws.length 0) rfl rfl ⟨Nat.zero_le _,by simp,fun k=>by
  rw [List.getElem?_replicate]
  simp only []
  split
  ·rw [if_neg (by omega)]
  ·rfl⟩ ?_
 rintro⟨i,h⟩ ⟨hi,hl,hh⟩ J hJ
 simp only at hi hl hh hJ ⊢
 by_cases c:i<ws.length-1
 ·have c0:(i:Int)<(mj ws ws.length).length:=by omega
  have e:eU (mj ws ws.length) i ⟨(i+1:Nat),ws.getD (i+1) 0⟩:=⟨by unfold mj;rw [List.getElem?_map,List.getElem?_range (by omega)];rfl⟩
  have e2:eU h (i+1) 0:=⟨by rw [hh,if_pos (by omega),if_neg (by omega)]⟩
  repeat' (first | (with_reducible refine G.joini0 ?_) | (with_reducible refine G.joini1 ?_) | (with_reducible refine G.drew ?_) | (simp (maxSteps:=2000000) only [↓RG,RP,RB,BEq.rfl,Int.reduceEq,Int.reduceLT,Int.reduceLE,Nat.reduceEqDiff,eq_true c0]))
  rw [di (by omega)]
  exact(hJ (i+1,h.set (i+1) (ws.getD (i+1) 0)) ⟨by omega,by rw [List.length_set];exact hl,fun k=>by
   rw [List.getElem?_set,hh,hl]
   by_cases e3:i+1=k
   ·subst e3
    rw [if_pos rfl,if_pos (by omega),if_pos (by omega),if_pos (by omega)]
   ·rw [if_neg e3]
    by_cases e4:k<ws.length
    ·rw [if_pos e4,if_pos e4]
     by_cases e5:1≤k∧k≤i
     ·rw [if_pos e5,if_pos (by omega)]
     ·rw [if_neg e5,if_neg (by omega)]
    ·rw [if_neg e4,if_neg e4]⟩ (by simp only;omega)).sub
 ·have hi3:i=ws.length-1:=by omega
  have c0:¬(i:Int)<(mj ws ws.length).length:=by omega
  have eh:h=ws.set 0 0:=by
   refine List.ext_getElem? fun k=>?_
   rw [hh,List.getElem?_set]
   by_cases e4:k<ws.length
   ·rw [if_pos e4]
    by_cases e5:0=k
    ·subst e5
     rw [if_neg (by omega),if_pos rfl,if_pos (by omega)]
    ·rw [if_pos (by omega),if_neg e5,List.getD_eq_getElem?_getD,List.getElem?_eq_getElem e4];rfl
   ·rw [if_neg e4,if_neg (by omega),List.getElem?_eq_none (by omega)]
  subst eh
  refine gf c0 ?_
  refine G.loop1 (fun k:Nat=>i64 k) (fun k=>sl cx u5 (Pf (ws.set 0 0) (cs.take k))::own b [i64 ws.length,u,ptr p 0,i64 0]::sl bf u (mj ws ws.length)::L) (fun k=>k≤cs.length) (fun k=>cs.length-k) 0 rfl rfl (Nat.zero_le _) ?_
  intro k hk J2 hJ2
  by_cases c:k<cs.length
  ·have c1:(k:Int)<cs.length:=by omega
   have e:eU cs k cs[k]:=⟨List.getElem?_eq_getElem c⟩
   obtain⟨p1,p2⟩:=hc _ (List.getElem_mem c)
   have ex:ij cs[k].place cs[k].place.toNat:=⟨by omega⟩
   have hl2:(Pf (ws.set 0 0) (cs.take k)).length=ws.length:=by rw [MQ,List.length_set]
   have e2:eU (Pf (ws.set 0 0) (cs.take k)) cs[k].place.toNat _:=⟨List.getElem?_eq_getElem (by omega)⟩
   refine gf (eq_true c1) ?_
   refine G.pickAll (As:=[own b [i64 ws.length,u,ptr p 0,i64 0]]) ?_
   simp only [List.cons_append,List.nil_append]
   refine F1 p1 p2 ?_
   repeat' (first | (with_reducible refine G.joini0 ?_) | (with_reducible refine G.joini1 ?_) | (with_reducible refine G.drew ?_) | (simp (maxSteps:=2000000) only [↓RG,RP,RB,BEq.rfl,Int.reduceEq,Int.reduceLT,Int.reduceLE,Nat.reduceEqDiff]))
   have e3:(Pf (ws.set 0 0) (cs.take k)).set cs[k].place.toNat cs[k].word=Pf (ws.set 0 0) (cs.take (k+1)):=by
    rw [List.take_succ_eq_append_getElem c];unfold Pf;rw [List.foldl_append];rfl
   rw [di (by omega),e3]
   exact(hJ2 (k+1) c (by omega)).sub
  ·have hk3:k=cs.length:=by omega
   subst hk3
   have c1:¬(cs.length:Int)<cs.length:=by omega
   refine gf c1 ?_
   rw [List.take_length]
   exact(hK u5 h5).sub
theorem EQ:∀{s:List Ta}{H:Hp}{i:Nat},Dx H s→Dx (qs H (s.take i)) (s.drop i)
 | [],_,i,_=>by simp [Dx]
 | a::l,H,0,h=>h
 | a::l,H,i+1,h=>EQ (s:=l) (H:=OM H a) (i:=i) h.2
theorem Jo {ws:List Int}{vw:Value}(ht:AG (l.map (·.2.1)))(ho:∀p∈l,tm p)(hl:l.length≤1000000)(h1:32≤ws.length)(h2:ws.length≤256)(hk:∀s,vS s→(∀a,a∈s↔a∈l.map (·.2.1))→Dx (fun c=>ws.getD c.toNat 0) s)(hc:∀a∈l.map (·.2.1),(∀r∈a.reads,1≤r.place∧r.place<(ws.length:Int))∧(∀c∈a.cells,1≤c.place∧c.place<(ws.length:Int)))(hK:G w0 (ob (cg eu) () l::sl fg v (l.map (·.1))::sl cx vw ws::M) (K (.bool true))) :
  G w0 (ob (cg eu) () l::sl fg v (l.map (·.1))::sl cx vw ws::M) (CP Tryz.prog WY [vw,v] K):=by
 refine Ip ?_
 unfold Ba
 refine yP ht ho hl fun u o hu hO=>?_
 have hol:=hO.len
 obtain⟨hs1,hs2⟩:=hO.row
 have hkp:=hk _ hs1 hs2
 refine G.nilsl bf ?_
 refine yF (ws:=ws) (cs:=[]) h1 h2 (by simp) (by simp) fun u0 hu0=>?_
 rw [show Pf (ws.set 0 0) []=ws.set 0 0 from rfl]
 refine G.sub (L':=sl cx u0 (ws.set 0 0)::sl bg u (o.map fun k:Nat=>(k:Int))::ob (cg eu) () l::sl fg v (l.map fun q:gd=>q.1)::sl cx vw ws::M) ?_
 refine G.loop2 (σ:=Nat×List Int×Value) (fun z=>z.2.2) (fun z=>i64 z.1) (fun z=>sl cx z.2.2 z.2.1::sl bg u (o.map fun k:Nat=>(k:Int))::ob (cg eu) () l::sl fg v (l.map fun q:gd=>q.1)::sl cx vw ws::M) (fun z=>z.1≤o.length∧z.2.1.length=ws.length∧(∀d:Int,1≤d→d<(ws.length:Int)→z.2.1.getD d.toNat 0=qs (fun c=>ws.getD c.toNat 0) ((o.map (p9 l)).take z.1) d)∧ar z.2.2 [z.2.2]) (fun z=>o.length-z.1) (0,ws.set 0 0,u0) rfl rfl rfl ⟨Nat.zero_le _,List.length_set,fun d d1 d2=>by
  simp only [List.take_zero]
  show _=ws.getD d.toNat 0
  rw [List.getD_eq_getElem?_getD,List.getElem?_set,if_neg (by omega),←List.getD_eq_getElem?_getD],hu0⟩ ?_
 rintro⟨i,h,uh⟩ ⟨hi,hhl,hh,huh⟩ J hJ
 simp only at hi hhl hh huh hJ ⊢
 by_cases c:i<o.length
 ·have c1:(i:Int)<(o.map fun k:Nat=>(k:Int)).length:=by rw [List.length_map];omega
  have e1:eU (o.map fun k:Nat=>(k:Int)) i ((o[i]:Nat):Int):=⟨by rw [List.getElem?_map,List.getElem?_eq_getElem c];rfl⟩
  have i1:=hO.lt c
  have g1:l[o[i]]? = some l[o[i]]:=List.getElem?_eq_getElem i1
  have e3:eU (l.map (·.1)) o[i] l[o[i]].1:=⟨by rw [List.getElem?_map,g1];rfl⟩
  have hq:=ho _ (List.getElem_mem i1)
  obtain⟨r1,r2,_⟩:=DY (w0:=w0) (M:=sl fg v (l.map fun q:gd=>q.1)::sl cx vw ws::M) g1
  obtain⟨hc1,hc2⟩:=hc _ (List.mem_map_of_mem (f:=fun q:gd=>q.2.1) (List.getElem_mem i1))
  have htr:=(EQ (i:=i) hkp)
  rw [List.drop_eq_getElem_cons (by simpa using c)] at htr
  have hrd:=htr.1
  rw [List.getElem_map,nT g1] at hrd
  refine gu ?_
  refine gf (eq_true c1) ?_
  refine G.new fun b=>?_
  refine gg ?_
  refine G.loop1 (fun k:Nat=>i64 k) (fun _=>own b (sL.cells l[o[i]].1)::sl cx uh h::sl bg u (o.map fun k:Nat=>(k:Int))::ob (cg eu) () l::sl fg v (l.map fun q:gd=>q.1)::sl cx vw ws::M) (fun k=>k≤l[o[i]].2.1.reads.length) (fun k=>l[o[i]].2.1.reads.length-k) 0 rfl rfl (Nat.zero_le _) ?_
  intro k hk4 J2 hJ2
  by_cases c2:k<l[o[i]].2.1.reads.length
  ·have c3:(k:Int)<l[o[i]].2.1.reads.length:=by omega
   have e4:eU l[o[i]].2.1.reads k l[o[i]].2.1.reads[k]:=⟨List.getElem?_eq_getElem c2⟩
   obtain⟨p1,p2⟩:=hc1 _ (List.getElem_mem c2)
   have hw:=hrd _ (List.getElem_mem c2)
   rw [←hh _ p1 p2] at hw
   have hx:ij l[o[i]].2.1.reads[k].place l[o[i]].2.1.reads[k].place.toNat:=⟨by omega⟩
   have hp3:l[o[i]].2.1.reads[k].place.toNat<h.length:=by omega
   have e5:eU h l[o[i]].2.1.reads[k].place.toNat l[o[i]].2.1.reads[k].word:=⟨by rw [←hw,List.getD_eq_getElem?_getD,List.getElem?_eq_getElem hp3];rfl⟩
   have c4:¬l[o[i]].2.1.reads[k].place<1:=by omega
   have c5:¬((h.length:Int)≤l[o[i]].2.1.reads[k].place):=by omega
   have hrl:=hq.reads
   repeat' (first | (with_reducible refine G.joini0 ?_) | (with_reducible refine G.joini1 ?_) | (with_reducible refine G.drew ?_) | (simp (maxSteps:=2000000) only [↓RG,RP,RB,BEq.rfl,Int.reduceEq,Int.reduceLT,Int.reduceLE,Nat.reduceEqDiff,eq_true c3,c4,c5]))
   rw [di (by omega)]
   exact(hJ2 (k+1) c2 (by omega)).sub
  ·have hk5:k=l[o[i]].2.1.reads.length:=by omega
   subst hk5
   have c3:¬(l[o[i]].2.1.reads.length:Int)<l[o[i]].2.1.reads.length:=by omega
   refine gf c3 ?_
   have hs:(o.map (p9 l)).take (i+1)=(o.map (p9 l)).take i++[l[o[i]].2.1]:=by
    rw [List.take_succ_eq_append_getElem (by simpa using c),List.getElem_map,nT g1]
   have hf:qs (fun c=>ws.getD c.toNat 0) ((o.map (p9 l)).take (i+1))=OM (qs (fun c=>ws.getD c.toNat 0) ((o.map (p9 l)).take i)) l[o[i]].2.1:=by
    rw [hs];unfold qs;rw [List.foldl_append];rfl
   rw [di (by omega)]
   by_cases c6:l[o[i]].1.kind=2
   ·have hd:l[o[i]].2.1.done=true:=by rw [←hq.done];exact decide_eq_true c6
    repeat' (first | (with_reducible refine G.joini0 ?_) | (with_reducible refine G.joini1 ?_) | (with_reducible refine G.drew ?_) | (simp (maxSteps:=2000000) only [↓RG,RP,RB,BEq.rfl,Int.reduceEq,Int.reduceLT,Int.reduceLE,Nat.reduceEqDiff,eq_true c6]))
    refine yF (ws:=h) (cs:=l[o[i]].2.1.cells) (by omega) (by omega) (fun c hc=>by rw [hhl];exact hc2 c hc) hq.cells fun u2 h2=>?_
    exact(hJ (i+1,Pf (h.set 0 0) l[o[i]].2.1.cells,u2) ⟨c,by rw [MQ,List.length_set];exact hhl,fun d d1 d2=>by
     rw [hf]
     unfold OM
     rw [if_pos hd]
     refine Tv (n:=ws.length) (by rw [List.length_set];exact hhl) hc2 (fun d d1 d2=>?_) d d1 d2
     rw [←hh d d1 d2,List.getD_eq_getElem?_getD,List.getElem?_set,if_neg (by omega),←List.getD_eq_getElem?_getD],h2⟩ (by simp only;omega)).sub
   ·have hd:l[o[i]].2.1.done=false:=by rw [←hq.done];exact decide_eq_false c6
    repeat' (first | (with_reducible refine G.joini0 ?_) | (with_reducible refine G.joini1 ?_) | (with_reducible refine G.drew ?_) | (simp (maxSteps:=2000000) only [↓RG,RP,RB,BEq.rfl,Int.reduceEq,Int.reduceLT,Int.reduceLE,Nat.reduceEqDiff,c6]))
    exact(hJ (i+1,h,uh) ⟨c,hhl,fun d d1 d2=>by
     rw [hf]
     unfold OM
     rw [if_neg (by rw [hd];exact Bool.false_ne_true)]
     exact hh d d1 d2,huh⟩ (by simp only;omega)).sub
 ·have hi2:i=o.length:=by omega
  subst hi2
  have c1:¬(o.length:Int)<(o.map fun k:Nat=>(k:Int)).length:=by rw [List.length_map];omega
  refine gf c1 ?_
  exact hK.sub
end
end Go.Proofs.YtoealglbimbbmaaGreatDoor.S
namespace Go.Proofs.YtoealglbimbbmaaGreatDoor.S
open Go Go.Proofs
set_option linter.unusedVariables false
set_option linter.unusedSimpArgs false
section
variable {w0:bh}{L M:List ay}{K:KV}{F:World→Prop}{C:ay→List ay}{b:Nat}{v:Value}{S:eO}{h0:Hp}{n nl nw i:Nat}{x:kI}{G':Gs}
theorem KE {P:Nat}:∀{l:List co},(∀t∈l,t.past.length≤P)→(l.flatMap em).length≤l.length*(P+1)
 | [],_=>by simp
 | t::l,h=>by
  have ih:=KE (P:=P) (l:=l) fun u hu=>h u (List.mem_cons_of_mem _ hu)
  have ht:=h t List.mem_cons_self
  have h1:(em t).length≤t.past.length+1:=by
   unfold em
   rw [List.length_append]
   split
   ·split
    ·split <;> simp
    ·simp
   ·simp
  rw [List.flatMap_cons,List.length_append,List.length_cons,Nat.add_mul]
  omega
theorem jq.tol {a:bq}(h:jq S h0 n G' nl nw i a)(h8:a.state≠8)(hU:jo a):CY a:=by
 have hwr:a.done=true→a.inn.isCom=true:=fun g=>by
  have g2:a.inn.wr=true:=by simpa [h8] using g
  cases e:a.inn with
  | com f=>rfl
  | none=>rw [e] at g2;cases g2
  | fetch f=>rw [e] at g2;cases g2
  | ext f=>rw [e] at g2;cases g2
 have hk:=h.kok.few
 obtain⟨c1,c2,c3⟩:=h.vok.cells
 exact⟨by omega,by omega,fun g=>(h.ends (.inl (hwr g))).1,h.blk.1,fun g=>⟨(h.ends (.inl (hwr g))).2,hU.items⟩⟩
theorem Gg {LG:tW}{ws:List Int}{vw:Value}(ht:uR w0)(hM:MI S (fun c=>ws.getD c.toNat 0) n x LG)(hU:sq x)(hp:x.picks≤100000)(hw:x.mem.w.length=ws.length)(hw1:32≤ws.length)(hw2:ws.length≤256)
  (hK:G w0 (ob nC b x::sl cx vw ws::M) (K (.bool true))):G w0 (ob nC b x::sl cx vw ws::M) (CP Tryz.prog Vh [vw,ptr b 0] K):=by
 refine Gw ?_
 unfold za
 have hn4:=hM.set.n4
 have hlen:=hM.len
 have hpast:∀t∈x.thr,t.past.length≤100000:=fun t htm=>by
  obtain⟨i,hi,e⟩:=List.getElem_of_mem htm
  have:=(hM.thr i t (by rw [List.getElem?_eq_getElem hi,e])).b.pastn
  omega
 refine ql (x:=x) ht (fun t htm=>⟨by have:=hpast t htm;omega,fun g=>?_⟩) (by omega) fun u hu=>?_
 ·obtain⟨i,hi,e⟩:=List.getElem_of_mem htm
  obtain⟨a,ha,hA,h8,_⟩:=(hM.thr i t (by rw [List.getElem?_eq_getElem hi,e])).run g
  exact⟨a,ha,hA.tol h8 ((hU.thr t htm).now a ha)⟩
 ·obtain⟨⟨hT,hs⟩,hin⟩:=hM.ordered
  have hl0:(vP x).length≤_:=KE hpast
  have hl1:(vP x).length≤1000000:=by
   have h2:x.thr.length*(100000+1)≤4*100001:=Nat.mul_le_mul (by omega) (by omega)
   omega
  rw [lz]
  intro q ⟨hq1,hq2⟩
  have hq3:q.length≤1000000:=by rw [←hq1,List.length_map] at hl1;exact hl1
  refine G.pickAll (As:=[ob (cg eu) () q,sl fg u (q.map fun q:gd=>q.1),sl cx vw ws]) ?_
  simp only [List.cons_append,List.nil_append]
  rw [←hq1] at hT hs hin
  refine Gm hT hq2 hq3 (fun s h1 h2=>(hs s h1 h2).2) ?_
  refine gg ?_
  refine Jo hT hq2 hq3 hw1 hw2 (fun s h1 h2=>(hs s h1 h2).1) (fun a ha=>by rw [←hw];exact⟨(hin a ha).1,(hin a ha).2.1⟩) ?_
  repeat' (first | (with_reducible refine G.joini0 ?_) | (with_reducible refine G.joini1 ?_) | (with_reducible refine G.drew ?_) | (simp (maxSteps:=2000000) only [↓RG,RP,RB,BEq.rfl,Int.reduceEq,Int.reduceLT,Int.reduceLE,Nat.reduceEqDiff]))
  exact hK.sub
end
end Go.Proofs.YtoealglbimbbmaaGreatDoor.S
