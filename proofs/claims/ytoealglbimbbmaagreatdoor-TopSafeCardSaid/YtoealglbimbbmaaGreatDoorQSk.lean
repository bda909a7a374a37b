import Derived.Test.YtoealglbimbbmaaGreatDoorQSe
namespace Go.Proofs.YtoealglbimbbmaaGreatDoor.S
open Go Go.Proofs
set_option linter.unusedVariables false
set_option linter.unusedSimpArgs false
def Gg (h:Hp)(k:List av):Prop:=∀c∈k,h c.place=c.word
section
variable {h:Hp}{σ:Sg}{r:dw}{s t:fa}{k:List av}{a x:Int}{bs:List Int}{g n:Nat}{q:bi}{ρ:z6}
theorem J0 {a x:Int}:∀{k:List av},dD k a=some x→(⟨a,x⟩:av)∈k
 | [],e=>by cases e
 | c::k,e=>by
  unfold dD at e
  split at e
  ·rename_i e2;cases e;subst e2;exact List.mem_cons_self
  ·exact List.mem_cons_of_mem _ (J0 e)
theorem Gg.ag (H:Gg h t.k)(A:Ag h s)(e:t.l=s.l):Ag h t:=⟨by rw [e];exact A.up,fun a x e=>H _ (J0 e),by rw [e];exact A.ok⟩
def F3 (r:dw)(s:fa):Prop :=
 (∃r0 n v c,(r0=6∨r0=7)∧(0≤n∧n≤1000)∧gH n=c∧1≤c∧c≤4∧∀h σ,Fm h σ→Gg h s.k→L2 r0 n v c h σ.B σ.R σ.sh r s) ∨
 (∃r0,(r0=6∨r0=7)∧∀h σ,Fm h σ→Gg h s.k→RM r0 h σ.B σ.R σ.sh σ.st r s) ∨
 (∃r0,(r0=6∨r0=7)∧∀h σ,Fm h σ→Gg h s.k→Mg r0 h σ.st r s)
abbrev T4 (bs:List Int)(σ:Sg):Prop:=∀n∈bs,∃c,(n,c)∈σ.R
def U1 (bs fs:List Int)(s:fa):Prop:=∀h σ,Fm h σ→Gg h s.k→T4 bs σ→s.l.up=[]∧KM h σ.B σ.R σ.sh fs bs s.l.r.c
def UZ (bs:List Int)(s:fa):Prop:=∀h σ,Fm h σ→Gg h s.k→T4 bs σ→qK σ.B σ.sh s.need
def Sv (bs:List Int)(g:Nat)(s:fa):Prop:=∀h σ,Fm h σ→Gg h s.k→T4 bs σ→Vl bs h σ.B σ.R σ.sh g s
theorem F3.run (H:F3 r s)(hk:(fz n r s).2.1.k=s.k):((fz n r s).2.2=1→F3 (fz n r s).1 (fz n r s).2.1∧UZ [] (fz n r s).2.1)∧((fz n r s).2.2=2→U1 [] (fz n r s).2.1.l.r.f (fz n r s).2.1):=by
 rcases H with ⟨r0,m,v,c,h1,h2,h3,h4,h5,H⟩ | ⟨r0,h1,H⟩ | ⟨r0,h1,H⟩
 ·have key:=fun h σ (hs:Fm h σ) (hk2:Gg h (fz n r s).2.1.k)=>P3 (k:=n) hs h1 h2 h3 h4 h5 (H h σ hs (by rw [←hk];exact hk2))
  exact⟨fun e=>⟨.inl ⟨r0,m,v,c,h1,h2,h3,h4,h5,fun h σ hs hk2=>((key h σ hs hk2).1 e).1⟩,fun h σ hs hk2 _=>((key h σ hs hk2).1 e).2⟩,fun e h σ hs hk2 _=>(key h σ hs hk2).2 e⟩
 ·have key:=fun h σ (hs:Fm h σ) (hk2:Gg h (fz n r s).2.1.k)=>RZ (k:=n) hs h1 (H h σ hs (by rw [←hk];exact hk2))
  exact⟨fun e=>⟨.inr (.inl ⟨r0,h1,fun h σ hs hk2=>((key h σ hs hk2).1 e).1⟩),fun h σ hs hk2 _=>((key h σ hs hk2).1 e).2⟩,fun e h σ hs hk2 _=>(key h σ hs hk2).2 e⟩
 ·have key:=fun h σ (hs:Fm h σ) (hk2:Gg h (fz n r s).2.1.k)=>Pw (k:=n) hs h1 (H h σ hs (by rw [←hk];exact hk2))
  exact⟨fun e=>⟨.inr (.inr ⟨r0,h1,fun h σ hs hk2=>((key h σ hs hk2).1 e).1⟩),fun h σ hs hk2 _=>((key h σ hs hk2).1 e).2⟩,fun e h σ hs hk2 _=>(key h σ hs hk2).2 e⟩
theorem Sv.run (H:Sv bs g s)(hn:bs.Nodup)(hg:g≤bs.length)(hk:(eU (bs.drop g) g s).2.1.k=s.k):((eU (bs.drop g) g s).2.2.1=1→Sv bs (eU (bs.drop g) g s).1 (eU (bs.drop g) g s).2.1∧UZ bs (eU (bs.drop g) g s).2.1)∧((eU (bs.drop g) g s).2.2.1=2→U1 bs [] (eU (bs.drop g) g s).2.1):=by
 have key:=fun h σ (hs:Fm h σ) (hk2:Gg h (eU (bs.drop g) g s).2.1.k) (hR:T4 bs σ)=>GU hs hn hR rfl hg (H h σ hs (by rw [←hk];exact hk2) hR)
 exact⟨fun e=>⟨fun h σ hs hk2 hR=>((key h σ hs hk2 hR).1 e).1,fun h σ hs hk2 hR=>((key h σ hs hk2 hR).1 e).2.1⟩,fun e h σ hs hk2 hR=>⟨((key h σ hs hk2 hR).2 e).1,((key h σ hs hk2 hR).2 e).2.1⟩⟩
theorem F3.know (H:F3 r s){k:List av}(hk:∀c∈s.k,c∈k):F3 r ⟨s.size,k,s.l,s.need⟩:=by
 have sub:∀{h:Hp},Gg h k→Gg h s.k:=fun g c hc=>g c (hk c hc)
 rcases H with ⟨r0,m,v,c,h1,h2,h3,h4,h5,H⟩ | ⟨r0,h1,H⟩ | ⟨r0,h1,H⟩
 ·refine .inl ⟨r0,m,v,c,h1,h2,h3,h4,h5,fun h σ hs hk2=>?_⟩
  have J:=H h σ hs (sub hk2)
  exact⟨⟨J.cm.prog,J.cm.fin,J.cm.bad,J.cm.r7,Gg.ag (t:=⟨s.size,k,s.l,s.need⟩) hk2 J.cm.ag rfl,J.cm.sz⟩,J.fs,J.at_⟩
 ·refine .inr (.inl ⟨r0,h1,fun h σ hs hk2=>?_⟩)
  have J:=H h σ hs (sub hk2)
  exact⟨⟨J.cm.prog,J.cm.fin,J.cm.bad,J.cm.r7,Gg.ag (t:=⟨s.size,k,s.l,s.need⟩) hk2 J.cm.ag rfl,J.cm.sz⟩,J.at_⟩
 ·refine .inr (.inr ⟨r0,h1,fun h σ hs hk2=>?_⟩)
  have J:=H h σ hs (sub hk2)
  exact⟨⟨J.cm.prog,J.cm.fin,J.cm.bad,J.cm.r7,Gg.ag (t:=⟨s.size,k,s.l,s.need⟩) hk2 J.cm.ag rfl,J.cm.sz⟩,J.fs,J.at_⟩
theorem Sv.know (H:Sv bs g s){k:List av}(hk:∀c∈s.k,c∈k):Sv bs g ⟨s.size,k,s.l,s.need⟩:=fun h σ hs hk2 hR=>by
 have J:=H h σ hs (fun c hc=>hk2 c (hk c hc)) hR
 exact⟨Gg.ag (t:=⟨s.size,k,s.l,s.need⟩) hk2 J.ag rfl,J.ar,J.off,J.pl,J.fs⟩
theorem Pj {s:fa}{a x:Int}:∃k,(lL s a x).1=⟨s.size,k,s.l,s.need⟩∧∀c∈s.k,c∈k:=by
 unfold lL
 split
 ·split
  ·exact⟨s.k,rfl,fun c hc=>hc⟩
  ·exact⟨_,rfl,fun c hc=>List.mem_append_left _ hc⟩
 ·exact⟨s.k,rfl,fun c hc=>hc⟩
theorem F3.nocall (H:F3 r s)(hs:Fm h σ)(hk:Gg h s.k):∀i∈r.prog,i.op≠23:=by
 rcases H with ⟨r0,m,v,c,h1,h2,h3,h4,h5,H⟩ | ⟨r0,h1,H⟩ | ⟨r0,h1,H⟩
 ·rw [(H h σ hs hk).cm.prog];intro i hi;simp only [List.mem_cons,List.not_mem_nil,or_false] at hi
  rcases hi with rfl | rfl | rfl | rfl | rfl | rfl | rfl <;> simp
 ·rw [(H h σ hs hk).cm.prog];intro i hi;simp only [List.mem_cons,List.not_mem_nil,or_false] at hi
  rcases hi with rfl | rfl | rfl | rfl | rfl | rfl | rfl <;> simp
 ·rw [(H h σ hs hk).cm.prog];intro i hi;simp only [List.mem_cons,List.not_mem_nil,or_false] at hi
  rcases hi with rfl | rfl | rfl | rfl | rfl | rfl | rfl | rfl <;> simp
def bi.fs (x:bi):List Int:=match x.run with
 | none=>[]
 | some _=>x.v.l.frees
structure kg (x:bi):Prop where
 job:x.inn.isCom=false→x.state≤4→∀r,x.run=some r→F3 r x.v
 swp:x.inn.isCom=false→x.state≤4→x.run=none→Sv x.blocks x.given x.v
 need:x.state=3∨x.state=4→UZ x.blocks x.v
 com:x.inn.isCom=true→U1 x.blocks x.fs x.v
 dn:x.fin=2→x.inn.isCom=false→x.fs=[]
 blk:x.run.isSome=true→x.blocks=[]
 nd:x.blocks.Nodup
 giv:x.given≤x.blocks.length
def LU (x:bi):Prop:=∃h σ,Fm h σ∧Gg h x.v.k∧T4 x.blocks σ
theorem kg.out {x:bi}(H:kg x){e er b:Int}(he:e≠2):kg (fi x e er b):=⟨fun _ g=>absurd g (show ¬(7:Int)≤4 by decide),fun _ g=>absurd g (show ¬(7:Int)≤4 by decide),fun g=>by rcases g with g | g <;> exact absurd g (show ¬(7:Int)=_ by decide),H.com,fun g=>absurd g he,H.blk,H.nd,H.giv⟩
theorem kg.work {x:bi}(H:kg x)(hρ:cx ρ)(hA:∀r,x.run=some r→m7 r x.v)(hc:x.inn.isCom=false)(hs4:x.state≤4)(hH:LU x)(hf:x.fin=0):kg (fh ρ x):=by
 obtain⟨h,σ,hs,hk,hR⟩:=hH
 unfold fh fy
 cases hr:x.run with
 | some r =>
  have hJ:=H.job hc hs4 r hr
  have q:=hρ.q r x.v (hA r hr)
  have e:=q.det (hJ.nocall hs hk)
  have hkk:=q.k
  have hf3:=q.fin
  have hb:=H.blk (by rw [hr];rfl)
  rw [e] at hkk hf3
  obtain⟨r1,r2⟩:=hJ.run (n:=401) hkk
  simp only
  rw [e]
  generalize fz 401 r x.v=R at hkk hf3 r1 r2
  unfold jr
  dsimp only
  by_cases c1:R.2.2=1
  ·obtain⟨a1,a2⟩:=r1 c1
   rw [if_pos c1]
   exact⟨fun _ _ r' g=>(by cases g;exact a1),fun _ _ g=>(by cases g),fun _=>(by show UZ x.blocks R.2.1;rw [hb];exact a2),fun g=>(by cases g),fun g=>(by have g:x.fin=2:=g;omega),fun _=>hb,H.nd,H.giv⟩
  rw [if_neg c1]
  by_cases c3:R.2.2=3
  ·rw [if_pos c3]
   exact⟨fun _ g=>absurd g (show ¬(5:Int)≤4 by decide),fun _ g=>absurd g (show ¬(5:Int)≤4 by decide),fun g=>by rcases g with g | g <;> exact absurd g (show ¬(5:Int)=_ by decide),fun g=>(by cases g),fun g=>(by have g:x.fin=2:=g;omega),fun _=>hb,H.nd,H.giv⟩
  rw [if_neg c3]
  by_cases c4:R.2.2=4
  ·rw [if_pos c4]
   exact⟨fun _ g=>absurd g (show ¬(7:Int)≤4 by decide),fun _ g=>absurd g (show ¬(7:Int)≤4 by decide),fun g=>by rcases g with g | g <;> exact absurd g (show ¬(7:Int)=_ by decide),fun g=>(by have g:x.inn.isCom=true:=g;rw [hc] at g;cases g),fun g=>absurd g (show ¬(4:Int)=2 by decide),fun _=>hb,H.nd,H.giv⟩
  rw [if_neg c4]
  have hE:=r2 (by omega)
  obtain⟨u0,E0⟩:=hE h σ hs (by rw [hkk];exact hk) (fun n hn=>(by cases hn))
  have ec:R.2.1.l.cells=R.2.1.l.r.c:=by unfold jl.cells;rw [u0];rfl
  have efr:R.2.1.l.frees=R.2.1.l.r.f:=by unfold jl.frees gk;rw [u0];simp
  rw [ec]
  by_cases c5:R.2.1.l.r.c=[]
  ·rw [if_pos c5]
   refine⟨fun _ g=>absurd g (show ¬(7:Int)≤4 by decide),fun _ g=>absurd g (show ¬(7:Int)≤4 by decide),fun g=>by rcases g with g | g <;> exact absurd g (show ¬(7:Int)=_ by decide),fun g=>(by have g:x.inn.isCom=true:=g;rw [hc] at g;cases g),fun _ _=>?_,fun _=>hb,H.nd,H.giv⟩
   show R.2.1.l.frees=[]
   rw [efr]
   obtain⟨_,_,_,_,_,_,_,_,_,_,_,_,e9,_⟩:=E0.ex
   cases hfs:R.2.1.l.r.f with
   | nil=>rfl
   | cons n l =>
    obtain⟨y,hy,_⟩:=e9 n (by rw [hfs];exact List.mem_cons_self)
    rw [c5] at hy;cases hy
  ·rw [if_neg c5]
   exact⟨fun g=>(by cases g),fun g=>(by cases g),fun g=>by rcases g with g | g <;> exact absurd g (show ¬(6:Int)=_ by decide),fun _=>(by show U1 x.blocks R.2.1.l.frees R.2.1;rw [hb,efr];exact hE),fun _ g=>(by cases g),fun _=>hb,H.nd,H.giv⟩
 | none =>
  have hJ:=H.swp hc hs4 hr
  have hg:=De (l:=x.blocks.drop x.given) (g:=x.given) (s:=x.v)
  obtain⟨r1,r2⟩:=hJ.run H.nd H.giv hg.k
  have hkk:=hg.k
  have hf3:=hg.fin
  have hat:=hg.at_
  rw [List.length_drop] at hat
  have hgv:=H.giv
  simp only
  generalize eU (x.blocks.drop x.given) x.given x.v=R at hkk hf3 r1 r2 hat
  unfold jr
  dsimp only
  by_cases c1:R.2.2.1=1
  ·obtain⟨a1,a2⟩:=r1 c1
   rw [if_pos c1]
   exact⟨fun _ _ r' g=>(by cases g),fun _ _ g=>a1,fun _=>a2,fun g=>(by cases g),fun g=>(by have g:x.fin=2:=g;omega),fun g=>(by cases g),H.nd,by show R.1≤x.blocks.length;omega⟩
  rw [if_neg c1]
  have c3:R.2.2.1≠3:=by omega
  rw [if_neg c3]
  by_cases c4:R.2.2.1=4
  ·rw [if_pos c4]
   exact⟨fun _ g=>absurd g (show ¬(7:Int)≤4 by decide),fun _ g=>absurd g (show ¬(7:Int)≤4 by decide),fun g=>by rcases g with g | g <;> exact absurd g (show ¬(7:Int)=_ by decide),fun g=>(by have g:x.inn.isCom=true:=g;rw [hc] at g;cases g),fun g=>absurd g (show ¬(4:Int)=2 by decide),fun g=>(by cases g),H.nd,by show R.1≤x.blocks.length;omega⟩
  rw [if_neg c4]
  have hE:=r2 (by omega)
  have e0:∀y:bi,y.run=none→y.fs=[]:=fun y hy=>by unfold bi.fs;rw [hy]
  by_cases c5:R.2.1.l.cells=[]
  ·rw [if_pos c5]
   exact⟨fun _ g=>absurd g (show ¬(7:Int)≤4 by decide),fun _ g=>absurd g (show ¬(7:Int)≤4 by decide),fun g=>by rcases g with g | g <;> exact absurd g (show ¬(7:Int)=_ by decide),fun g=>(by have g:x.inn.isCom=true:=g;rw [hc] at g;cases g),fun _ _=>e0 _ rfl,fun g=>(by cases g),H.nd,by show R.1≤x.blocks.length;omega⟩
  ·rw [if_neg c5]
   exact⟨fun g=>(by cases g),fun g=>(by cases g),fun g=>by rcases g with g | g <;> exact absurd g (show ¬(6:Int)=_ by decide),fun _=>(by rw [e0 _ rfl];exact hE),fun _ g=>(by cases g),fun g=>(by cases g),H.nd,by show R.1≤x.blocks.length;omega⟩
end
section
variable {x y:bi}{ρ:z6}{a:eW}
theorem SV {q:bi×Int×Int}:(jr q).v=q.1.v∧(jr q).blocks=q.1.blocks∧(jr q).run=q.1.run:=by
 unfold jr;repeat' split
 all_goals exact⟨rfl,rfl,rfl⟩
theorem Qx (hρ:cx ρ)(hA:∀r,x.run=some r→m7 r x.v):(fh ρ x).v.k=x.v.k∧(fh ρ x).blocks=x.blocks:=by
 unfold fh
 obtain⟨e1,e2,_⟩:=SV (q:=fy ρ x)
 rw [e1,e2]
 unfold fy
 cases hr:x.run with
 | some r=>exact⟨(hρ.q r x.v (hA r hr)).k,rfl⟩
 | none=>exact⟨(De (l:=x.blocks.drop x.given) (g:=x.given) (s:=x.v)).k,rfl⟩
theorem kg.mark (H:kg x):kg (fM x):=by
 show kg (if x.wr=true then { x with stamp:=x.inn.stamp } else x)
 split
 ·exact⟨H.job,H.swp,H.need,H.com,H.dn,H.blk,H.nd,H.giv⟩
 ·exact H
theorem kg.out2 (H:kg x){e er b:Int}(he:x.inn.isCom=true):kg (fi x e er b):=⟨fun _ g=>absurd g (show ¬(7:Int)≤4 by decide),fun _ g=>absurd g (show ¬(7:Int)≤4 by decide),fun g=>by rcases g with g | g <;> exact absurd g (show ¬(7:Int)=_ by decide),H.com,fun _ g=>by(have g:x.inn.isCom=false:=g;rw [he] at g;cases g),H.blk,H.nd,H.giv⟩
theorem S8:(fM x).v=x.v∧(fM x).blocks=x.blocks:=by
 show (if x.wr=true then { x with stamp:=x.inn.stamp } else x:bi).v=x.v∧(if x.wr=true then { x with stamp:=x.inn.stamp } else x:bi).blocks=x.blocks
 split <;> exact⟨rfl,rfl⟩
theorem kg.tell (H:kg x)(hρ:cx ρ)(hA:x.state≤4→∀r,x.run=some r→m7 r x.v)(hf0:x.state≤6→x.fin=0)(hfr:x.state≤2→x.inn=.none)(hfe:x.state=3→∃f,x.inn=.fetch f)(hex:x.state=4∨x.state=5→∃e,x.inn=.ext e)(hco:x.state=6→∃c,x.inn=.com c)(hst:0≤x.state∧x.state≤8)
  (hH:x.state=2∨x.state=3→LU (ao ρ x a)):kg (ao ρ x a):=by
 unfold ao at hH ⊢
 by_cases s8:x.state=8
 ·rw [if_pos s8];exact H
 rw [if_neg s8] at hH ⊢
 by_cases s0:x.state=0
 ·rw [if_pos s0]
  exact⟨fun g _=>H.job g (by omega),fun g _=>H.swp g (by omega),fun g=>(by rcases g with g | g <;> exact absurd g (show ¬(1:Int)=_ by decide)),H.com,H.dn,H.blk,H.nd,H.giv⟩
 rw [if_neg s0] at hH ⊢
 by_cases s1:x.state=1
 ·rw [if_pos s1]
  exact⟨fun g _=>H.job g (by omega),fun g _=>H.swp g (by omega),fun g=>(by rcases g with g | g <;> exact absurd g (show ¬(2:Int)=_ by decide)),H.com,H.dn,H.blk,H.nd,H.giv⟩
 rw [if_neg s1] at hH ⊢
 by_cases s2:x.state=2
 ·rw [if_pos s2] at hH ⊢
  have hi:=hfr (by omega)
  have hA:=hA (by omega)
  obtain⟨k1,k2⟩:=Qx hρ hA
  have hH:=hH (.inl s2)
  unfold LU at hH
  rw [k1,k2] at hH
  exact H.work hρ hA (by rw [hi]) (by omega) hH (hf0 (by omega))
 rw [if_neg s2] at hH ⊢
 by_cases s7:x.state=7
 ·rw [if_pos s7]
  exact⟨fun _ g=>absurd g (show ¬(8:Int)≤4 by decide),fun _ g=>absurd g (show ¬(8:Int)≤4 by decide),fun g=>(by rcases g with g | g <;> exact absurd g (show ¬(8:Int)=_ by decide)),H.com,H.dn,H.blk,H.nd,H.giv⟩
 rw [if_neg s7] at hH ⊢
 unfold dN at hH ⊢
 have hH:x.state=3→LU (if (x.inn.tell a).fin=0 then { x with inn:=x.inn.tell a } else if (x.inn.tell a).fin=5 then fi { x with inn:=x.inn.tell a } 5 0 (x.inn.tell a).by_ else gS ρ { x with inn:=x.inn.tell a }):=fun s3=>by
  have hH:=hH (.inr s3)
  unfold LU at hH ⊢
  obtain⟨e1,e2⟩:=S8 (x:=if (x.inn.tell a).fin=0 then { x with inn:=x.inn.tell a } else if (x.inn.tell a).fin=5 then fi { x with inn:=x.inn.tell a } 5 0 (x.inn.tell a).by_ else gS ρ { x with inn:=x.inn.tell a })
  rw [e1,e2] at hH
  exact hH
 refine kg.mark ?_
 have hic:(x.inn.tell a).isCom=x.inn.isCom:=by cases x.inn <;> rfl
 have H1:kg { x with inn:=x.inn.tell a }:=⟨fun g g2=>H.job (hic ▸ g) g2,fun g g2=>H.swp (hic ▸ g) g2,H.need,fun g=>H.com (hic ▸ g),fun g g2=>H.dn g (hic ▸ g2),H.blk,H.nd,H.giv⟩
 by_cases z0:(x.inn.tell a).fin=0
 ·rw [if_pos z0];exact H1
 rw [if_neg z0] at hH ⊢
 by_cases z5:(x.inn.tell a).fin=5
 ·rw [if_pos z5];exact H1.out (by decide)
 rw [if_neg z5] at hH ⊢
 by_cases s3:x.state=3
 ·obtain⟨f,hf⟩:=hfe s3
  have hH:=hH s3
  have hA:=hA (by omega)
  rw [hf] at hH H1 ⊢
  show kg (cy ρ { x with inn:=.fetch (df f a) } (df f a))
  have hH:LU (cy ρ { x with inn:=.fetch (df f a) } (df f a)):=hH
  have H1:kg { x with inn:=.fetch (df f a) }:=H1
  generalize df f a=f' at hH H1 ⊢
  unfold cy at hH ⊢
  by_cases c6:f'.pat.fin=6
  ·rw [if_pos c6]
   exact⟨fun _ _=>H1.job rfl (by show x.state≤4;omega),fun _ _=>H1.swp rfl (by show x.state≤4;omega),fun _=>H1.need (.inl s3),fun g=>(by cases g),fun g g2=>H1.dn g rfl,H1.blk,H1.nd,H1.giv⟩
  rw [if_neg c6] at hH ⊢
  by_cases c0:l7 16 x.rd ⟨f'.stripe,f'.lock.version⟩=0
  ·rw [if_pos c0] at hH ⊢
   have hA2:∀r,(kE { x with inn:=.fetch f' } f').run=some r→m7 r (kE { x with inn:=.fetch f' } f').v:=fun r hr=>(hA r hr).lv M9
   obtain⟨k1,k2⟩:=Qx hρ hA2
   unfold LU at hH
   rw [k1,k2] at hH
   obtain⟨k,e1,e2⟩:=Pj (s:=x.v) (a:=x.v.need) (x:=f'.word)
   have H2:kg (kE { x with inn:=.fetch f' } f'):=by
    refine⟨fun _ _ r hr=>?_,fun _ _ hr=>?_,fun g=>?_,fun g=>(by cases g),fun g _=>?_,H1.blk,H1.nd,H1.giv⟩
    ·show F3 r (lL x.v x.v.need f'.word).1
     rw [e1];exact(H1.job rfl (by show x.state≤4;omega) r hr).know e2
    ·show Sv x.blocks x.given (lL x.v x.v.need f'.word).1
     rw [e1];exact(H1.swp rfl (by show x.state≤4;omega) hr).know e2
    ·intro h σ hs hk hR
     show qK σ.B σ.sh (lL x.v x.v.need f'.word).1.need
     rw [e1]
     refine H1.need (.inl s3) h σ hs (fun c hc=>hk c ?_) hR
     show c∈(lL x.v x.v.need f'.word).1.k
     rw [e1];exact e2 c hc
    ·have:=hf0 (by omega);have g:x.fin=2:=g;omega
   exact H2.work hρ hA2 rfl (by show x.state≤4;omega) hH (hf0 (by omega))
  rw [if_neg c0]
  have H2:kg (jI { x with inn:=.fetch f' } f'):=⟨H1.job,H1.swp,H1.need,H1.com,H1.dn,H1.blk,H1.nd,H1.giv⟩
  split
  ·exact H2.out (by decide)
  ·exact H2.out (by decide)
 by_cases s45:x.state=4∨x.state=5
 ·obtain⟨e,he⟩:=hex s45
  rw [he] at H1 ⊢
  have H1:kg { x with inn:=.ext (dS e a) }:=H1
  show kg (if x.state=4 then qt { { x with inn:=.ext (dS e a) } with stamp:=(dS e a).stamp } x.v.need else fi { { x with inn:=.ext (dS e a) } with stamp:=(dS e a).stamp } 3 0 (-1))
  generalize dS e a=e' at H1 ⊢
  have H2:kg { { x with inn:=.ext e' } with stamp:=e'.stamp }:=⟨H1.job,H1.swp,H1.need,H1.com,H1.dn,H1.blk,H1.nd,H1.giv⟩
  split
  ·rename_i s4
   exact⟨fun _ _=>H1.job rfl (by show x.state≤4;omega),fun _ _=>H1.swp rfl (by show x.state≤4;omega),fun _=>H1.need (.inr s4),fun g=>(by cases g),fun g g2=>H1.dn g rfl,H1.blk,H1.nd,H1.giv⟩
  ·exact H2.out (by decide)
 ·obtain⟨c,hc⟩:=hco (by omega)
  rw [hc] at H1 ⊢
  have H1:kg { x with inn:=.com (cZ c a) }:=H1
  exact H1.out2 rfl
end
end Go.Proofs.YtoealglbimbbmaaGreatDoor.S
namespace Go.Proofs.YtoealglbimbbmaaGreatDoor.S
open Go Go.Proofs
set_option linter.unusedVariables false
set_option linter.unusedSimpArgs false
def sx (p:List dv):Prop :=
 (∃r n v c,(r=6∨r=7)∧(0≤n∧n≤1000)∧gH n=c∧1≤c∧c≤4∧p=GH r n v)∨(∃r,(r=6∨r=7)∧p=NZ r)∨∃r,(r=6∨r=7)∧p=GN r
def KN (t:bq):Bool:=match t.now with
 | some a=>decide (t.state=1) && a.inn.wr
 | none=>false
def U5 (t:bq):List gC:=match t.now with
 | some a=>a.fs.map fun n=>⟨n,a.stamp⟩
 | none=>[]
def eM (t:bq):List gC:=t.limbo++(if KN t=true then (if t.sweep=true then [] else U5 t) else t.rests)
def yp (t:bq)(τ:Int):Prop:=t.state=1→∀a,t.now=some a→a.begun=true→τ≤a.beg
structure Bb (l:List bq)(T sv:Int)(t:bq):Prop where
 jobs:∀p∈t.jobs,sx p
 att:t.state=1→∀a,t.now=some a→kg a∧a.run.isSome = !t.sweep∧(t.sweep=true→a.blocks=t.rests.map (·.place))
 le:∀g∈t.limbo++t.rests,1≤g.stamp∧g.stamp≤T
 look:t.state=5→∀(j:Nat) (s:Int) (u:bq),t.slots[j]? = some s→l[j]? = some u→∀g∈t.limbo,(s=0∨g.stamp<s)→yp u g.stamp
 sw:t.sweep=true→∀g∈t.rests,∀u∈l,yp u g.stamp
 slot:t.state=1→∀a,t.now=some a→(a.state=0→sv=0)∧(a.state=1∨a.state=2→sv=1)∧(3≤a.state→sv=a.beg+1)∧(a.state=2→a.stamp=a.beg)
 off:t.state≠1→sv=0
structure rB (t:bq):Prop where
 att:t.state=1→∀a,t.now=some a→kg a∧a.run.isSome = !t.sweep∧(t.sweep=true→a.blocks=t.rests.map (·.place))∧a.state=0∧a.begun=false∧a.inn.wr=false
section
variable {t t':bq}{τ T sv:Int}{l:List bq}{p:List dv}{me:Int}{S:dr}
theorem rB.bg (h:rB t):yp t τ:=fun h1 a ha hb=>by
 have:=(h.att h1 a ha).2.2.2.2.1;rw [this] at hb;cases hb
theorem rB.wr (h:rB t):KN t=false:=by
 unfold KN
 cases hn:t.now with
 | none=>rfl
 | some a =>
  by_cases h1:t.state=1
  ·simp only [(h.att h1 a hn).2.2.2.2.2,Bool.and_false]
  ·simp only [decide_eq_false h1,Bool.false_and]
theorem rB.pend (h:rB t):eM t=t.limbo++t.rests:=by unfold eM;rw [h.wr];rfl
theorem rB.of (h:t.state≠1):rB t:=⟨fun g=>absurd g h⟩
theorem KC {h:Hp}{s:fa}(h1:s.l.up=[])(h2:s.k=[])(h3:s.l.r.c=[]):Ag h s:=⟨h1,fun a x e=>(by rw [h2] at e;cases e),by rw [h3];exact zW.nil⟩
theorem OA (hp:sx p):kg (iD me S p):=by
 have hsz:((dj S).words.toNat:Nat)≤256:=by
  have:=eI (n:=S.words) (show (32:Int)≤256 by decide)
  show (held S.words 32 256).toNat≤256
  omega
 have ag:∀{h:Hp},Ag h (iD me S p).v:=fun {h}=>KC rfl rfl rfl
 refine⟨fun _ _ r hr=>?_,fun _ _ hr=>(by cases hr),fun g=>(by rcases g with g | g <;> exact absurd g (show ¬(0:Int)=_ by decide)),fun g=>(by cases g),fun g=>absurd g (show ¬(0:Int)=2 by decide),fun _=>rfl,List.nodup_nil,Nat.le_refl _⟩
 cases hr
 rcases hp with ⟨r,n,v,c,h1,h2,h3,h4,h5,rfl⟩ | ⟨r,h1,rfl⟩ | ⟨r,h1,rfl⟩
 ·exact .inl ⟨r,n,v,c,h1,h2,h3,h4,h5,fun h σ _ _=>⟨⟨rfl,rfl,rfl,rfl,ag,hsz⟩,rfl,.inl ⟨rfl,.inl rfl⟩⟩⟩
 ·exact .inr (.inl ⟨r,h1,fun h σ _ _=>⟨⟨rfl,rfl,rfl,rfl,ag,hsz⟩,.inl ⟨rfl,rfl,.inl rfl⟩⟩⟩)
 ·exact .inr (.inr ⟨r,h1,fun h σ _ _=>⟨⟨rfl,rfl,rfl,rfl,ag,hsz⟩,⟨rfl,rfl⟩,.inl rfl⟩⟩)
theorem JP {bs:List Int}(hn:bs.Nodup):kg (fR me S bs):=by
 refine⟨fun _ _ r hr=>(by cases hr),fun _ _ _ h σ hs _ _=>⟨KC rfl rfl rfl,⟨σ.R,σ.fl,hs.ar,fun b=>by simp⟩,fun p _=>rfl,fun y hy=>(by cases hy),rfl⟩,fun g=>(by rcases g with g | g <;> exact absurd g (show ¬(0:Int)=_ by decide)),fun g=>(by cases g),fun g=>absurd g (show ¬(0:Int)=2 by decide),fun g=>(by cases g),hn,Nat.zero_le _⟩
theorem B1 (hj:∀p∈t.jobs,sx p)(hn:(t.rests.map (·.place)).Nodup):rB (dy t)∧(dy t).limbo=t.limbo∧(dy t).rests=t.rests∧(dy t).sweep=t.sweep∧(dy t).jobs=t.jobs∧(dy t).slots=t.slots∧(dy t).state≠5:=by
 unfold dy
 cases e:t.jobs[t.job.toNat]? with
 | none=>exact⟨.of (show ¬(6:Int)=1 by decide),rfl,rfl,rfl,rfl,rfl,show ¬(6:Int)=5 by decide⟩
 | some p =>
  refine⟨⟨fun _ a ha=>?_⟩,rfl,rfl,rfl,rfl,rfl,show ¬(1:Int)=5 by decide⟩
  by_cases c:t.sweep=true
  ·have ha:some (if t.sweep=true then fR t.me t.s (t.rests.map (·.place)) else iD t.me t.s p)=some a:=ha
   rw [if_pos c] at ha
   cases ha
   exact⟨JP hn,(by show false = !t.sweep;rw [c];rfl),fun _=>rfl,rfl,rfl,rfl⟩
  ·have ha:some (if t.sweep=true then fR t.me t.s (t.rests.map (·.place)) else iD t.me t.s p)=some a:=ha
   rw [if_neg c] at ha
   cases ha
   have c':t.sweep=false:=by simpa using c
   exact⟨OA (hj p (List.mem_of_getElem? e)),(by show true = !t.sweep;rw [c'];rfl),fun g=>absurd g (by show ¬t.sweep=true;exact c),rfl,rfl,rfl⟩
structure C1 (l:List bq)(T:Int)(js:List (List dv))(P:List gC)(z:bq):Prop where
 fresh:rB z
 jobs:z.jobs=js
 pend:∃D,P.Perm (z.limbo++z.rests++D)
 look:z.state=5→∀(j:Nat) (s:Int) (u:bq),z.slots[j]? = some s→l[j]? = some u→∀g∈z.limbo,(s=0∨g.stamp<s)→yp u g.stamp
 sw:z.sweep=true→∀g∈z.rests,∀u∈l,yp u g.stamp
variable {P:List gC}{z:bq}
theorem C1.thrP (h:C1 l T t.jobs P z)(hj:∀p∈t.jobs,sx p)(hP:∀g∈P,1≤g.stamp∧g.stamp≤T):Bb l T 0 z:=by
 obtain⟨D,hD⟩:=h.pend
 exact⟨by rw [h.jobs];exact hj,fun g a ha=>⟨(h.fresh.att g a ha).1,(h.fresh.att g a ha).2.1,(h.fresh.att g a ha).2.2.1⟩,fun g hg=>hP g (hD.mem_iff.2 (List.mem_append_left _ hg)),h.look,h.sw,fun g a ha=>⟨fun _=>rfl,fun g2=>by have:=(h.fresh.att g a ha).2.2.2.1;omega,fun g2=>by have:=(h.fresh.att g a ha).2.2.2.1;omega,fun g2=>by have:=(h.fresh.att g a ha).2.2.2.1;omega⟩,fun _=>rfl⟩
theorem nj (hj:∀p∈t.jobs,sx p)(hn:(t.rests.map (·.place)).Nodup)(hs:t.sweep=true→∀g∈t.rests,∀u∈l,yp u g.stamp)(hP:∃D,P.Perm (t.limbo++t.rests++D)):C1 l T t.jobs P (dy t):=by
 obtain⟨h1,h2,h3,h4,h5,_,h7⟩:=B1 hj hn
 exact⟨h1,h5,by rw [h2,h3];exact hP,fun g=>absurd g h7,by rw [h3,h4];exact hs⟩
theorem nN (hj:∀p∈t.jobs,sx p)(hP:∃D,P.Perm (t.limbo++D)):C1 l T t.jobs P (gM t) :=
 nj (t:={ t with job:=t.job+1,sweep:=false,rests:=[],tries:=0,conf:=0 }) hj List.nodup_nil (fun g=>(by cases g)) (by simpa using hP)
theorem D9 {draw:Int}(hj:∀p∈t.jobs,sx p)(hn:(t.rests.map (·.place)).Nodup)(hs:t.sweep=true→∀g∈t.rests,∀u∈l,yp u g.stamp)(hP:∃D,P.Perm (t.limbo++t.rests++D)):C1 l T t.jobs P (ku t draw):=by
 show C1 l T t.jobs P (if lQ t.conf draw=0 then _ else _)
 split
 ·exact nj (t:={ t with pauses:=0,state:=3 }) hj hn hs hP
 ·exact⟨.of (show ¬(3:Int)=1 by decide),rfl,hP,fun g=>absurd g (show ¬(3:Int)=5 by decide),hs⟩
end
section
variable {t t' x:bq}{τ T sv:Int}{l:List bq}{P:List gC}{a:bi}
theorem OC {xs:List Int}{s:Int}:∀{j:Nat},dG xs τ=true→xs[j]? = some s→s=0∨τ<s:=fun {j} h e=>by
 have:=List.all_eq_true.1 h s (List.mem_of_getElem? e)
 by_cases g:s=0
 ·exact .inl g
 ·simp [g] at this;exact .inr (by omega)
theorem B7 {α:Type}{p:α→Bool}:∀{l:List α},l.Perm (l.filter (fun r=>!p r)++l.filter p)
 | []=>.nil
 | y::l=>by
  have ih:=B7 (p:=p) (l:=l)
  cases h:p y
  ·rw [List.filter_cons_of_pos (by simp [h]),List.filter_cons_of_neg (by simp [h])]
   exact ih.cons y
  ·rw [List.filter_cons_of_neg (by simp [h]),List.filter_cons_of_pos (by simp [h])]
   exact(ih.cons y).trans List.perm_middle.symm
theorem Gr (hs5:t.state=5)(hsw:t.sweep=false)(hr:t.rests=[])(hj:∀p∈t.jobs,sx p)(hnd:(t.limbo.map (·.place)).Nodup)
  (hlook:∀(j:Nat) (s:Int) (u:bq),t.slots[j]? = some s→l[j]? = some u→∀g∈t.limbo,(s=0∨g.stamp<s)→yp u g.stamp)
  (hown:∀u,l[t.slots.length]? = some u→(t.slots.length:Int)=t.me→∀τ,yp u τ) (hlen:(l.length:Int)≤t.s.threads) (hP:∃D,P.Perm (t.limbo++D)):C1 l T t.jobs P (kD t):=by
 have hl2:∀(j:Nat) (s:Int) (u:bq),(dH t)[j]? = some s→l[j]? = some u→∀g∈t.limbo,(s=0∨g.stamp<s)→yp u g.stamp:=fun j s u h1 h2 g hg h3=>by
  unfold dH at h1
  split at h1
  ·rename_i e
   rw [List.getElem?_append] at h1
   split at h1
   ·exact hlook j s u h1 h2 g hg h3
   ·rename_i c
    have hj0:j=t.slots.length:=by
     have:=(List.getElem?_eq_some_iff.1 h1).1
     simp only [List.length_singleton] at this
     omega
    subst hj0
    exact hown u h2 e _
  ·exact hlook j s u h1 h2 g hg h3
 obtain⟨D,hD⟩:=hP
 have hfp:=B7 (p:=fun r:gC=>dG (dH t) r.stamp) (l:=t.limbo)
 unfold kD
 split
 ·exact⟨.of (by show ¬t.state=1;omega),rfl,⟨D,by show P.Perm (t.limbo++t.rests++D);rw [hr,List.append_nil];exact hD⟩,fun _=>hl2,fun g=>by(have g:t.sweep=true:=g;rw [hsw] at g;cases g)⟩
 ·rename_i hth
  split
  ·exact nN (t:={ t with slots:=dH t,limbo:=t.limbo.filter fun r=>!dG (dH t) r.stamp }) hj ⟨t.limbo.filter (fun r=>dG (dH t) r.stamp)++D,by
    refine hD.trans ?_
    show (t.limbo++D).Perm (t.limbo.filter (fun r=>!dG (dH t) r.stamp)++(t.limbo.filter (fun r=>dG (dH t) r.stamp)++D))
    rw [←List.append_assoc]
    exact hfp.append_right D⟩
  ·refine nj (t:={ t with slots:=dH t,limbo:=t.limbo.filter (fun r=>!dG (dH t) r.stamp),sweep:=true,rests:=t.limbo.filter (fun r=>dG (dH t) r.stamp),tries:=0,conf:=0 }) hj ?_ (fun _ g hg u hu=>?_) ⟨D,hD.trans (hfp.append_right D)⟩
   ·exact hnd.sublist (List.filter_sublist.map _)
   ·obtain⟨h1,h2⟩:=List.mem_filter.1 hg
    obtain⟨j,hjl⟩:=List.getElem?_of_mem hu
    have hjlt:=(List.getElem?_eq_some_iff.1 hjl).1
    have hjs:j<(dH t).length:=by omega
    exact hl2 j _ u (List.getElem?_eq_getElem hjs) hjl g h1 (OC h2 (List.getElem?_eq_getElem hjs))
theorem K3 {draw pick:Int}{sl:ByteArray}(hj:∀p∈x.jobs,sx p)(h8:a.state=8)(hA:kg a)(hrs:a.run.isSome = !x.sweep)(hout:(a.fin=2∨a.fin=3∨a.fin=4∨a.fin=5)∧(a.inn.wr=true→a.fin=2))
  (hcw:a.inn.wr=false→a.fin=2→a.inn.isCom=false) (hP:P=x.limbo++(if a.inn.wr=true then (if x.sweep=true then [] else a.fs.map fun n=>⟨n,a.stamp⟩) else x.rests)) (hnd:(P.map (·.place)).Nodup) (hr0:x.sweep=false→x.rests=[])
  (hs:x.sweep=true→∀g∈x.rests,∀u∈l,yp u g.stamp) (hown:∀u,l[0]? = some u→x.me=0→∀τ,yp u τ) (hlen:(l.length:Int)≤x.s.threads):C1 l T x.jobs P (gO x a draw pick sl):=by
 have hnw:a.fin≠2→P=x.limbo++x.rests:=fun h=>by
  have:a.inn.wr=false:=by
   cases e:a.inn.wr with
   | false=>rfl
   | true=>exact absurd (hout.2 e) h
  rw [hP,this];rfl
 have hrn:P=x.limbo++x.rests→(x.rests.map (·.place)).Nodup:=fun e=>by
  rw [e,List.map_append,List.nodup_append] at hnd
  exact hnd.2.1
 have hPe:P=x.limbo++x.rests→∃D,P.Perm (x.limbo++x.rests++D):=fun e=>⟨[],by rw [e,List.append_nil]⟩
 unfold gO
 split
 ·rename_i c5
  have e:=hnw (by omega)
  split
  ·exact⟨.of (show ¬(2:Int)=1 by decide),rfl,hPe e,fun g=>absurd g (show ¬(2:Int)=5 by decide),hs⟩
  ·exact D9 (t:={ x with past:=x.past++[eP a x.born pick],tries:=IntKind.wrap .i64 (x.tries+1),conf:=IntKind.wrap .i64 (x.conf+1) }) hj (hrn e) hs (hPe e)
 ·rename_i c5
  split
  ·rename_i c3
   have e:=hnw (by omega)
   split
   ·exact nj (t:={ x with past:=x.past++[eP a x.born pick],tries:=IntKind.wrap .i64 (x.tries+1) }) hj (hrn e) hs (hPe e)
   ·exact⟨.of (show ¬(4:Int)=1 by decide),rfl,hPe e,fun g=>absurd g (show ¬(4:Int)=5 by decide),hs⟩
  ·rename_i c3
   split
   ·rename_i hsw
    unfold sE
    split
    ·rename_i c4
     have e:=hnw (by omega)
     exact nN (t:={ x with past:=x.past++[eP a x.born pick],tries:=IntKind.wrap .i64 (x.tries+1),limbo:=x.limbo++x.rests }) hj ⟨[],by rw [e,List.append_nil]⟩
    ·refine nN (t:={ x with past:=x.past++[eP a x.born pick],tries:=IntKind.wrap .i64 (x.tries+1) }) hj ?_
     rw [hP]
     exact⟨_,.refl _⟩
   ·rename_i hsw
    have hsw:x.sweep=false:=by simpa using hsw
    have hr:=hr0 hsw
    obtain⟨q,hq⟩:=Option.isSome_iff_exists.1 (show a.run.isSome=true by rw [hrs,hsw];rfl)
    have hfs:a.fs=a.v.l.frees:=by unfold bi.fs;rw [hq]
    have hlim:P=x.limbo++a.freed.map fun n=>⟨n,a.stamp⟩:=by
     have hdone:a.done=decide (a.fin=2):=by
      show (decide ((if a.state=8 then a.fin else 0)=2) || (!decide (a.state=8) && a.inn.wr))=_
      rw [h8];simp
     have hfr:a.freed=if a.fin=2 then a.v.l.frees else []:=by
      show (if a.done=true then (match a.run with | none=>a.blocks | some _=>a.v.l.frees) else [])=_
      rw [hdone,hq];simp
     rw [hP,hfr,hsw,hr,hfs]
     by_cases w:a.inn.wr=true
     ·rw [if_pos w,if_neg (by decide),if_pos (hout.2 w)]
     ·rw [if_neg w]
      have w:a.inn.wr=false:=by simpa using w
      by_cases c2:a.fin=2
      ·rw [if_pos c2]
       have:=hA.dn c2 (hcw w c2)
       rw [hfs] at this
       rw [this];rfl
      ·rw [if_neg c2];rfl
    unfold sQ
    split
    ·exact nN (t:={ x with past:=x.past++[eP a x.born pick],tries:=IntKind.wrap .i64 (x.tries+1),res:=x.res++[⟨a.fin,a.err,sl,a.stamp⟩],limbo:=x.limbo++a.freed.map fun n=>⟨n,a.stamp⟩ }) hj ⟨[],by rw [hlim,List.append_nil]⟩
    ·refine Gr (t:={ x with past:=x.past++[eP a x.born pick],tries:=IntKind.wrap .i64 (x.tries+1),res:=x.res++[⟨a.fin,a.err,sl,a.stamp⟩],limbo:=x.limbo++a.freed.map fun n=>⟨n,a.stamp⟩,state:=5,slots:=[] }) rfl hsw hr hj (by rw [hlim] at hnd;exact hnd) (fun j s u h=>by cases h) (fun u h e τ=>hown u h ?_ τ) hlen ⟨[],by rw [hlim,List.append_nil]⟩
     have e:((0:Nat):Int)=x.me:=e
     omega
end
end Go.Proofs.YtoealglbimbbmaaGreatDoor.S
