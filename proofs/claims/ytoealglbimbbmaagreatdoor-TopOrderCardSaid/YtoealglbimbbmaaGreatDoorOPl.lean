import Derived.Test.YtoealglbimbbmaaGreatDoorOPr
namespace Go.Proofs.YtoealglbimbbmaaGreatDoor.S
open Go Go.Proofs
set_option linter.unusedVariables false
set_option linter.unusedSimpArgs false
def Ta.wrote (a:Ta):Bool:=a.done && !a.cells.isEmpty
def Ta.less (a b:Ta):Bool:=if a.stamp=b.stamp then (if a.wrote=b.wrote then decide (a.born<b.born) else a.wrote) else decide (a.stamp<b.stamp)
abbrev Hp:=Int→Int
def tP (h:Hp)(c x:Int):Hp:=fun d=>if d=c then x else h d
def IG (h:Hp)(l:List au):Hp:=l.foldl (fun h c=>tP h c.place c.word) h
def OM (h:Hp)(a:Ta):Hp:=if a.done then IG h a.cells else h
def qs (h:Hp)(l:List Ta):Hp:=l.foldl OM h
def Dx:Hp→List Ta→Prop
 | _,[]=>True
 | h,a::l=>(∀r∈a.reads,h r.place=r.word)∧Dx (OM h a) l
def Cy:List Ta→Prop
 | []=>True
 | b::l=>(∀a∈l,¬(0<a.ended∧a.ended<b.born))∧Cy l
theorem nS {l:List au}:∀{h:Hp}{c:Int},(∀x∈l,x.place≠c)→IG h l c=h c:=by
 induction l with
 | nil=>intro h c _;rfl
 | cons x l ih =>
  intro h c hx
  show IG (tP h x.place x.word) l c=h c
  rw [ih (fun y hy=>hx y (List.mem_cons_of_mem _ hy))]
  unfold tP
  rw [if_neg (fun g=>hx x List.mem_cons_self g.symm)]
theorem L3 {l:List au}:∀{h g:Hp}{c:Int},(∃x∈l,x.place=c)→IG h l c=IG g l c:=by
 induction l with
 | nil=>rintro h g c ⟨x,hx,_⟩;cases hx
 | cons x l ih =>
  intro h g c hx
  show IG (tP h x.place x.word) l c=IG (tP g x.place x.word) l c
  by_cases hl:∃y∈l,y.place=c
  ·exact ih hl
  ·have hn:∀y∈l,y.place≠c:=fun y hy e=>hl ⟨y,hy,e⟩
   rw [nS hn,nS hn]
   obtain⟨y,hy,e⟩:=hx
   rcases List.mem_cons.1 hy with rfl | hy
   ·unfold tP;rw [if_pos e.symm,if_pos e.symm]
   ·exact absurd e (hn y hy)
theorem OV {l:List au}{h g:Hp}{c:Int}(e:h c=g c):IG h l c=IG g l c:=by
 by_cases hl:∃y∈l,y.place=c
 ·exact L3 hl
 ·have hn:∀y∈l,y.place≠c:=fun y hy e=>hl ⟨y,hy,e⟩
  rw [nS hn,nS hn,e]
theorem PQ {h:Hp}{a:Ta}(hw:a.wrote=false):OM h a=h:=by
 unfold OM
 split
 ·rename_i hd
  unfold Ta.wrote at hw
  rw [hd] at hw
  cases e:a.cells with
  | nil=>rfl
  | cons x l=>rw [e] at hw;cases hw
 ·rfl
theorem KH {l:List Ta}:∀{h:Hp},qs h l=qs h (l.filter (·.wrote)):=by
 induction l with
 | nil=>intro h;rfl
 | cons a l ih =>
  intro h
  show qs (OM h a) l=_
  by_cases c:a.wrote=true
  ·rw [List.filter_cons_of_pos c];exact ih
  ·rw [List.filter_cons_of_neg c,PQ (by simpa using c)];exact ih
theorem KT {a:Ta}:a.less a=false:=by simp [Ta.less]
theorem Ga {a b c:Ta}(h1:a.less b=true)(h2:b.less c=true):a.less c=true:=by
 unfold Ta.less at *
 by_cases e1:a.stamp=b.stamp
 ·by_cases e2:b.stamp=c.stamp
  ·rw [if_pos e1] at h1;rw [if_pos e2] at h2;rw [if_pos (e1.trans e2)]
   cases ha:a.wrote <;> cases hb:b.wrote <;> cases hc:c.wrote <;> rw [ha,hb] at h1 <;> rw [hb,hc] at h2 <;> simp at h1 h2 ⊢ <;> omega
  ·rw [if_neg e2] at h2;rw [if_neg (by omega)];simp at h2 ⊢;omega
 ·rw [if_neg e1] at h1
  by_cases e2:b.stamp=c.stamp
  ·rw [if_neg (by omega)];simp at h1 ⊢;omega
  ·rw [if_neg e2] at h2;simp at h1 h2;rw [if_neg (by omega)];simp;omega
theorem E1 {a b:Ta}(h1:a.less b=true):b.less a=false:=by
 cases h:b.less a with
 | false=>rfl
 | true=>have:=Ga h1 h;rw [KT] at this;cases this
abbrev vS (l:List Ta):Prop:=l.Pairwise fun a b=>a.less b=true
def AG (l:List Ta):Prop:=l.Pairwise fun a b=>a.less b=true∨b.less a=true
theorem J7:∀{l p:List Ta}{h:Hp},vS (p++l)→(∀a∈l,∀r∈a.reads,qs h ((p++l).filter fun b=>b.less a) r.place=r.word)→Dx (qs h p) l
 | [],_,_,_,_=>trivial
 | a::l,p,h,hs,hr=>by
  have hs2:=List.pairwise_append.1 hs
  have hal:=(List.pairwise_cons.1 hs2.2.1)
  have e:(p++a::l).filter (fun b=>b.less a)=p:=by
   rw [List.filter_append,List.filter_eq_self.2 (fun b hb=>hs2.2.2 b hb a List.mem_cons_self),List.filter_eq_nil_iff.2,List.append_nil]
   intro b hb
   rcases List.mem_cons.1 hb with rfl | hb
   ·rw [KT];decide
   ·rw [E1 (hal.1 b hb)];decide
  refine⟨fun r hrr=>?_,?_⟩
  ·have:=hr a List.mem_cons_self r hrr
   rw [e] at this
   exact this
  ·have h2:=J7 (l:=l) (p:=p++[a]) (h:=h) (by simpa using hs) (fun b hb r hrr=>by have:=hr b (List.mem_cons_of_mem _ hb) r hrr;simpa using this)
   have e2:qs h (p++[a])=OM (qs h p) a:=by unfold qs;rw [List.foldl_append];rfl
   rw [e2] at h2
   exact h2
theorem HN:∀{l:List Ta},vS l→(∀a∈l,∀b∈l,0<a.ended→a.ended<b.born→a.less b=true)→Cy l
 | [],_,_=>trivial
 | b::l,hs,h=>by
  have hs:=List.pairwise_cons.1 hs
  refine⟨fun a ha g=>?_,HN hs.2 (fun a ha c hc=>h a (List.mem_cons_of_mem _ ha) c (List.mem_cons_of_mem _ hc))⟩
  have:=h a (List.mem_cons_of_mem _ ha) b List.mem_cons_self g.1 g.2
  rw [E1 (hs.1 a ha)] at this
  cases this
def FV (x y:Int×List au):Prop:=x.1<y.1
abbrev tW:=List (Int×List au)
def Sk (h:Hp)(L:tW):Hp:=L.foldl (fun h x=>IG h x.2) h
def Gc (h:Hp)(L:tW)(t:Int):Hp:=Sk h (L.filter fun x=>decide (x.1≤t))
def vE (s:Int)(cs:List au):tW→tW
 | []=>[(s,cs)]
 | x::L=>if s<x.1 then (s,cs)::x::L else x::vE s cs L
theorem BQ {h:Hp}{x:Int×List au}{L:tW}:Sk h (x::L)=Sk (IG h x.2) L:=rfl
theorem Oa {L:tW}:∀{h g:Hp}{c:Int},h c=g c→Sk h L c=Sk g L c:=by
 induction L with
 | nil=>intro h g c e;exact e
 | cons x L ih=>intro h g c e;exact ih (OV e)
theorem Rj {L:tW}:∀{h:Hp}{c:Int},(∀x∈L,∀y∈x.2,y.place≠c)→Sk h L c=h c:=by
 induction L with
 | nil=>intro h c _;rfl
 | cons x L ih =>
  intro h c hx
  rw [BQ,ih (fun y hy=>hx y (List.mem_cons_of_mem _ hy)),nS (hx x List.mem_cons_self)]
theorem IV {s:Int}{cs:List au}:∀{L:tW}{h:Hp}{t c:Int},L.Pairwise FV→(∀x∈L,s<x.1→∀y∈x.2,∀z∈cs,y.place≠z.place)→Gc h (vE s cs L) t c=if s≤t then IG (Gc h L t) cs c else Gc h L t c
 | [],h,t,c,_,_=>by
  unfold vE Gc
  by_cases g:s≤t
  ·rw [if_pos g,List.filter_cons_of_pos (by simpa using g)];rfl
  ·rw [if_neg g,List.filter_cons_of_neg (by simpa using g)]
 | x::L,h,t,c,hs,hd=>by
  rw [List.pairwise_cons] at hs
  unfold vE
  by_cases g0:s<x.1
  ·rw [if_pos g0]
   unfold Gc
   by_cases g:s≤t
   ·rw [if_pos g,List.filter_cons_of_pos (by simpa using g),BQ]
    have hall:∀y∈(x::L).filter (fun z=>decide (z.1≤t)),s<y.1:=fun y hy=>by
     have hy:=(List.mem_filter.1 hy).1
     rcases List.mem_cons.1 hy with rfl | hy
     ·exact g0
     ·have:x.1<y.1:=hs.1 y hy
      omega
    by_cases hc:∃z∈cs,z.place=c
    ·rw [Rj,L3 hc]
     rintro y hy q hq
     obtain⟨z,hz,rfl⟩:=hc
     exact hd y (List.mem_filter.1 hy).1 (hall y hy) q hq z hz
    ·have hn:∀z∈cs,z.place≠c:=fun z hz e=>hc ⟨z,hz,e⟩
     rw [nS hn]
     exact Oa (nS hn)
   ·rw [if_neg g,List.filter_cons_of_neg (by simpa using g)]
  ·rw [if_neg g0]
   have ih:=fun h=>IV (s:=s) (cs:=cs) (L:=L) (h:=h) (t:=t) (c:=c) hs.2 (fun y hy=>hd y (List.mem_cons_of_mem _ hy))
   unfold Gc at ih ⊢
   by_cases g:x.1≤t
   ·rw [List.filter_cons_of_pos (by simpa using g),List.filter_cons_of_pos (by simpa using g),BQ,BQ]
    exact ih _
   ·rw [List.filter_cons_of_neg (by simpa using g),List.filter_cons_of_neg (by simpa using g)]
    exact ih _
theorem oG {s:Int}{cs:List au}{y:Int×List au}:∀{L:tW},y∈vE s cs L↔y=(s,cs)∨y∈L
 | []=>by simp [vE]
 | z::l=>by
  unfold vE
  split
  ·simp
  ·rw [List.mem_cons,oG,List.mem_cons]
   constructor
   ·rintro(h | h | h)
    ·exact .inr (.inl h)
    ·exact .inl h
    ·exact .inr (.inr h)
   ·rintro(h | h | h)
    ·exact .inr (.inl h)
    ·exact .inl h
    ·exact .inr (.inr h)
theorem C9 {s:Int}{cs:List au}:∀{L:tW},L.Pairwise FV→(∀x∈L,x.1≠s)→(vE s cs L).Pairwise FV
 | [],_,_=>by simp [vE]
 | z::l,h,hn=>by
  unfold vE
  have h2:=List.pairwise_cons.1 h
  split
  ·rename_i c
   rw [List.pairwise_cons]
   refine⟨fun y hy=>?_,h⟩
   show s<y.1
   rcases List.mem_cons.1 hy with rfl | hy
   ·exact c
   ·have:z.1<y.1:=h2.1 y hy
    omega
  ·rename_i c
   have:=hn z List.mem_cons_self
   rw [List.pairwise_cons]
   refine⟨fun y hy=>?_,C9 h2.2 (fun x hx=>hn x (List.mem_cons_of_mem _ hx))⟩
   rcases oG.1 hy with rfl | hy
   ·show z.1<s;omega
   ·exact h2.1 y hy
theorem MU:∀{l m:tW},l.Pairwise FV→m.Pairwise FV→(∀y,y∈l↔y∈m)→l=m
 | [],[],_,_,_=>rfl
 | [],x::m,_,_,h=>by have:=(h x).2 List.mem_cons_self;cases this
 | x::l,[],_,_,h=>by have:=(h x).1 List.mem_cons_self;cases this
 | x::l,y::m,hl,hm,h=>by
  have hl:=List.pairwise_cons.1 hl
  have hm:=List.pairwise_cons.1 hm
  have e:x=y:=by
   rcases List.mem_cons.1 ((h x).1 List.mem_cons_self) with g | g
   ·exact g
   ·rcases List.mem_cons.1 ((h y).2 List.mem_cons_self) with g2 | g2
    ·exact g2.symm
    ·have h1:y.1<x.1:=hm.1 x g
     have h2:x.1<y.1:=hl.1 y g2
     omega
  subst e
  congr 1
  refine MU hl.2 hm.2 fun z=>?_
  constructor
  ·intro hz
   rcases List.mem_cons.1 ((h z).1 (List.mem_cons_of_mem _ hz)) with g | g
   ·subst g;have:z.1<z.1:=hl.1 _ hz;omega
   ·exact g
  ·intro hz
   rcases List.mem_cons.1 ((h z).2 (List.mem_cons_of_mem _ hz)) with g | g
   ·subst g;have:z.1<z.1:=hm.1 _ hz;omega
   ·exact g
def Ta.at_ (a:Ta):Int:=if a.wrote then a.stamp-1 else a.stamp
structure RO (h0:Hp)(L:tW)(l:List Ta):Prop where
 log:L.Pairwise FV
 mem:∀x,x∈L↔∃a∈l,a.wrote=true∧x=(a.stamp,a.cells)
 one:∀a∈l,∀b∈l,a.wrote=true→b.wrote=true→a.stamp=b.stamp→a=b
 born:l.Pairwise fun a b=>a.born≠b.born
 reads:∀a∈l,∀r∈a.reads,Gc h0 L a.at_ r.place=r.word
 keep:∀a∈l,∀b∈l,0<a.ended→a.ended<b.born→a.stamp<b.stamp∨(a.stamp=b.stamp∧b.wrote=false∧(a.wrote=true∨a.born<b.born))
theorem OR {a b:Ta}(h:a.born≠b.born)(hw:a.wrote=true→b.wrote=true→a.stamp≠b.stamp):a.less b=true∨b.less a=true:=by
 unfold Ta.less
 by_cases e:a.stamp=b.stamp
 ·rw [if_pos e,if_pos e.symm]
  cases ha:a.wrote <;> cases hb:b.wrote <;> simp
  ·omega
  ·exact(hw ha hb e).elim
 ·rw [if_neg e,if_neg (fun g=>e g.symm)]
  simp;omega
theorem NO {l:List Ta}:∀{h:Hp},(∀a∈l,a.wrote=true)→qs h l=Sk h (l.map fun b=>(b.stamp,b.cells)):=by
 induction l with
 | nil=>intro h _;rfl
 | cons a l ih =>
  intro h hw
  have ha:=hw a List.mem_cons_self
  have hd:a.done=true:=by unfold Ta.wrote at ha;simp at ha;exact ha.1
  show qs (OM h a) l=Sk (IG h a.cells) _
  have:OM h a=IG h a.cells:=by unfold OM;rw [if_pos hd]
  rw [this]
  exact ih fun b hb=>hw b (List.mem_cons_of_mem _ hb)
theorem N4 {h0:Hp}{L:tW}{l:List Ta}(h:RO h0 L l):AG l∧∀s,vS s→(∀a,a∈s↔a∈l)→Dx h0 s∧Cy s:=by
 have htot:AG l:=by
  refine h.born.imp_of_mem fun {a b} ha hb hn=>OR hn fun wa wb e=>?_
  exact hn (by rw [h.one a ha b hb wa wb e])
 refine⟨htot,fun s hs hm=>⟨?_,HN hs fun a ha b hb g1 g2=>?_⟩⟩
 ·have key:=J7 (l:=s) (p:=[]) (h:=h0) (by simpa using hs) fun a ha r hr=>?_
  ·exact key
  ·have ha':=(hm a).1 ha
   rw [←h.reads a ha' r hr,List.nil_append,KH]
   have e:((s.filter (fun b=>b.less a)).filter (fun b:Ta=>b.wrote)).map (fun b=>(b.stamp,b.cells))=L.filter fun x=>decide (x.1≤a.at_):=by
    refine MU ?_ (h.log.filter _) fun x=>?_
    ·refine List.pairwise_map.2 ?_
     have h1:=((hs.filter (fun b=>b.less a)).filter (fun b:Ta=>b.wrote))
     refine h1.imp_of_mem fun {b c} hb hc hlt=>?_
     show b.stamp<c.stamp
     have hb:=List.mem_filter.1 hb
     have hc:=List.mem_filter.1 hc
     have hb2:=(hm b).1 (List.mem_filter.1 hb.1).1
     have hc2:=(hm c).1 (List.mem_filter.1 hc.1).1
     unfold Ta.less at hlt
     by_cases e:b.stamp=c.stamp
     ·have:=h.one b hb2 c hc2 hb.2 hc.2 e
      subst this
      rw [if_pos rfl,if_pos rfl] at hlt
      simp at hlt
     ·rw [if_neg e] at hlt
      simpa using hlt
    ·rw [List.mem_map,List.mem_filter,h.mem]
     constructor
     ·rintro⟨b,hb,rfl⟩
      have hb:=List.mem_filter.1 hb
      have hb1:=List.mem_filter.1 hb.1
      have hb2:=(hm b).1 hb1.1
      refine⟨⟨b,hb2,hb.2,rfl⟩,?_⟩
      have hlt:=hb1.2
      have hw:=hb.2
      simp only [decide_eq_true_eq]
      unfold Ta.at_
      unfold Ta.less at hlt
      by_cases e:b.stamp=a.stamp
      ·rw [if_pos e] at hlt
       cases wa:a.wrote with
       | false=>simp;omega
       | true =>
        have:=h.one b hb2 a ha' hw wa e
        subst this
        rw [if_pos rfl] at hlt
        simp at hlt
      ·rw [if_neg e] at hlt
       simp only [decide_eq_true_eq] at hlt
       split <;> omega
     ·rintro⟨⟨b,hb,hw,rfl⟩,hx⟩
      simp only [decide_eq_true_eq] at hx
      refine⟨b,List.mem_filter.2 ⟨List.mem_filter.2 ⟨(hm b).2 hb,?_⟩,hw⟩,rfl⟩
      unfold Ta.at_ at hx
      unfold Ta.less
      cases wa:a.wrote with
      | false =>
       rw [wa] at hx
       simp only [Bool.false_eq_true,if_false] at hx
       by_cases e:b.stamp=a.stamp
       ·rw [if_pos e,hw];simp
       ·rw [if_neg e];simp;omega
      | true =>
       rw [wa] at hx
       simp only [if_true] at hx
       rw [if_neg (by omega)]
       simp;omega
   rw [NO fun b hb=>(List.mem_filter.1 hb).2,e]
   rfl
 ·have:=h.keep a ((hm a).1 ha) b ((hm b).1 hb) g1 g2
  unfold Ta.less
  rcases this with g | ⟨e,wb,g⟩
  ·rw [if_neg (by omega)];simpa using g
  ·rw [if_pos e,wb]
   cases wa:a.wrote with
   | true=>simp
   | false =>
    rcases g with g | g
    ·rw [wa] at g;cases g
    ·simpa using g
end Go.Proofs.YtoealglbimbbmaaGreatDoor.S
