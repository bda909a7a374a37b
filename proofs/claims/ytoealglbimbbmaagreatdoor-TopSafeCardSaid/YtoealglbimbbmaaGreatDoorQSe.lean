import Derived.Test.YtoealglbimbbmaaGreatDoorQSb
namespace Go.Proofs.YtoealglbimbbmaaGreatDoor.S
open Go Go.Proofs
set_option linter.unusedVariables false
set_option linter.unusedSimpArgs false
section
variable {h:Hp}{x:dw}{s t:fa}{a b c p r n v:Int}{l:List av}{B R sh:List Bk}{fl:Int→List Int}{st:Int→List Bk}
theorem KM.none (H:I0 h B R sh fl st):KM h B R sh [] [] []:=⟨B,R,sh,fl,st,H,List.prefix_rfl,fun b=>by simp,fun b h1 h2 h3=>.inl ⟨h1,h2,h3⟩,fun y hy=>by(cases hy),fun n hn=>by(cases hn),fun b hb=>.inl hb,fun n hn=>(by cases hn),by simp⟩
theorem PY.next:∀{l:List Bk}{a:Int},PY h a l→∀b∈l,h b.1=0∨∃d∈l,h b.1=d.1
 | [],_,_,b,hb=>by cases hb
 | d::l,a,H,b,hb=>by
  rcases List.mem_cons.1 hb with rfl | hb
  ·cases l with
   | nil=>exact .inl H.2
   | cons e l=>exact .inr ⟨e,by simp,H.2.1⟩
  ·rcases PY.next H.2 b hb with g | ⟨e,he,g⟩
   ·exact .inl g
   ·exact .inr ⟨e,List.mem_cons_of_mem _ he,g⟩
theorem PY.top {l:List Bk}{a:Int}(H:PY h a l):a=0∨∃b l',l=b::l'∧a=b.1:=by
 cases l with
 | nil=>exact .inl H
 | cons b l=>exact .inr ⟨b,l,rfl,H.1⟩
structure RM (r:Int)(h:Hp)(B R sh:List Bk)(st:Int→List Bk)(x:dw)(s:fa):Prop where
 cm:Cm (NZ r) h x s
 at_:(s.l.r.f=[]∧s.l.r.c=[]∧(x.pos=0∨(x.pos=1∧x.r.r0=h r)∨∃b l,st r=b::l∧x.r.r0=b.1∧(x.pos=2∨((x.pos=3∨x.pos=4)∧x.r.r1=h b.1))))
  ∨ (∃b l,st r=b::l∧x.r.r0=b.1∧s.l.r.f=[]∧x.pos=5∧kj h s=eN h r (h b.1)∧∀y∈s.l.r.c,y.place=r)
  ∨ ((x.pos=6∨x.pos=7)∧KM h B R sh s.l.r.f [] s.l.r.c)
theorem RZ (H:I0 h B R sh fl st)(hr:r=6∨r=7){k:Nat}(hJ:RM r h B R sh st x s) :
  ((fz k x s).2.2=1→RM r h B R sh st (fz k x s).1 (fz k x s).2.1∧qK B sh (fz k x s).2.1.need)∧((fz k x s).2.2=2→(fz k x s).2.1.l.up=[]∧KM h B R sh (fz k x s).2.1.l.r.f [] (fz k x s).2.1.l.r.c):=by
 refine Q1 (N:=qK B sh) (E:=fun s=>s.l.up=[]∧KM h B R sh s.l.r.f [] s.l.r.c) (J:=RM r h B R sh st) (fun x s g=>⟨g.cm.fin,g.cm.bad⟩) (fun x s g e=>?_) (fun x s g e=>?_) k x s hJ
 ·rw [g.cm.prog] at e
  have e:x.pos=7:=e
  rcases g.at_ with ⟨_,_,q | q | ⟨b,l,_,_,q⟩⟩ | ⟨b,l,_,_,_,q,_⟩ | ⟨_,q⟩
  ·omega
  ·omega
  ·omega
  ·omega
  ·exact⟨g.cm.ag.up,q⟩
 obtain⟨⟨cp,cf,cb,c7,ca,cz⟩,at_⟩:=g
 rw [cp] at e
 have e:x.pos≠7:=e
 have hroot:dA x.r.r7 r=(r,0):=by rw [c7];exact C5 hr
 have hblk:∀{b:Bk} {l:List Bk},st r=b::l→b∈B∧15≤b.1∧b.1+1<256:=fun {b l} e=>by
  have hb:=H.of hr (b:=b) (by rw [e];exact List.mem_cons_self)
  have:=H.ar.mem (H.ar.sub b hb)
  have:=gF (c:=b.2)
  exact⟨hb,by omega,by omega⟩
 rcases at_ with ⟨ef,ec,q⟩ | ⟨b,l,eb,e0,ef,q,eh,pl⟩ | ⟨q,hE⟩
 ·have eh:kj h s=h:=by unfold kj;rw [ec];rfl
  rcases q with q | ⟨q,q0⟩ | ⟨b,l,eb,e0,q⟩
  ·have hi:x.ins=⟨8,0,7,r,0⟩:=by unfold dw.ins;rw [cp,q];rfl
   rcases pU (s:=s) hi (show dA x.r.r7 r=(r,0) from hroot) ca with e | e | e
   ·rw [e]
    refine⟨fun _=>⟨⟨cp,cf,cb,c7,ca,cz⟩,.inl ⟨ef,ec,.inr (.inl ⟨?_,?_⟩)⟩⟩,fun g=>by cases g⟩
    ·show x.pos+1=1;omega
    ·show kj h s r=h r;rw [eh]
   ·rw [e]
    exact⟨fun g=>(by cases g),fun _=>⟨⟨⟨cp,cf,cb,c7,ca.nd,cz⟩,.inl ⟨ef,ec,.inl q⟩⟩,.inl (by show r<14;omega)⟩⟩
   ·exact⟨fun g=>(by omega),fun g=>by omega⟩
  ·have hi:x.ins=⟨13,0,0,7,0⟩:=by unfold dw.ins;rw [cp,q];rfl
   rw [I3 (s:=s) hi]
   refine⟨fun _=>?_,fun g=>by cases g⟩
   by_cases g0:x.r.get (m8 0)=0
   ·simp only [if_pos g0]
    exact⟨⟨cp,cf,cb,c7,ca,cz⟩,.inr (.inr ⟨.inr rfl,by rw [ef,ec];exact .none H⟩)⟩
   ·simp only [if_neg g0]
    have g0:x.r.r0≠0:=g0
    rcases(H.stk r hr).1.top with g | ⟨b,l,e1,e2⟩
    ·rw [q0] at g0;exact absurd g g0
    ·refine⟨⟨cp,cf,cb,c7,ca,cz⟩,.inl ⟨ef,ec,.inr (.inr ⟨b,l,e1,q0.trans e2,.inl ?_⟩)⟩⟩
     show x.pos+1=2;omega
  ·obtain⟨hb,b1,b2⟩:=hblk eb
   rcases q with q | ⟨q | q,q1⟩
   ·have hi:x.ins=⟨8,1,0,0,0⟩:=by unfold dw.ins;rw [cp,q];rfl
    rcases pU (s:=s) hi (show dA x.r.r0 0=(b.1,0) by rw [e0,GI b1 b2 (by decide) (by decide),Int.add_zero]) ca with e | e | e
    ·rw [e]
     refine⟨fun _=>⟨⟨cp,cf,cb,c7,ca,cz⟩,.inl ⟨ef,ec,.inr (.inr ⟨b,l,eb,e0,.inr ⟨.inl ?_,?_⟩⟩)⟩⟩,fun g=>by cases g⟩
     ·show x.pos+1=3;omega
     ·show kj h s b.1=h b.1;rw [eh]
    ·rw [e]
     exact⟨fun g=>(by cases g),fun _=>⟨⟨⟨cp,cf,cb,c7,ca.nd,cz⟩,.inl ⟨ef,ec,.inr (.inr ⟨b,l,eb,e0,.inl q⟩)⟩⟩,.body hb (rQ hb)⟩⟩
    ·exact⟨fun g=>(by omega),fun g=>by omega⟩
   ·have hi:x.ins=⟨8,2,0,1,0⟩:=by unfold dw.ins;rw [cp,q];rfl
    rcases pU (s:=s) hi (show dA x.r.r0 1=(b.1+1,0) by rw [e0,GI b1 b2 (by decide) (by decide)]) ca with e | e | e
    ·rw [e]
     refine⟨fun _=>⟨⟨cp,cf,cb,c7,ca,cz⟩,.inl ⟨ef,ec,.inr (.inr ⟨b,l,eb,e0,.inr ⟨.inr ?_,q1⟩⟩)⟩⟩,fun g=>by cases g⟩
     show x.pos+1=4;omega
    ·rw [e]
     refine⟨fun g=>(by cases g),fun _=>⟨⟨⟨cp,cf,cb,c7,ca.nd,cz⟩,.inl ⟨ef,ec,.inr (.inr ⟨b,l,eb,e0,.inr ⟨.inl q,q1⟩⟩)⟩⟩,.body hb ?_⟩⟩
     have:=gF (c:=b.2)
     exact⟨by show b.1≤b.1+1;omega,by show b.1+1<b.1+yE b.2;omega⟩
    ·exact⟨fun g=>(by omega),fun g=>by omega⟩
   ·have hi:x.ins=⟨9,7,1,r,0⟩:=by unfold dw.ins;rw [cp,q];rfl
    rcases wZ (s:=s) hi (show dA x.r.r7 r=(r,0) from hroot) with ⟨t,e,w⟩ | e
    ·rw [e]
     have w:Wr s t [⟨r,h b.1⟩]:=by have w':Wr s t [⟨r,x.r.r1⟩]:=w;rw [q1] at w';exact w'
     obtain⟨A2,e2⟩:=ca.wr w
     refine⟨fun _=>⟨⟨cp,cf,cb,c7,A2,by rw [w.size];exact cz⟩,.inr (.inl ⟨b,l,eb,e0,w.f.trans ef,by show x.pos+1=5;omega,by rw [e2,eh];rfl,fun y hy=>?_⟩)⟩,fun g=>by cases g⟩
     rcases w.pl y hy with g | ⟨z,hz,g⟩
     ·rw [ec] at g;cases g
     ·rw [List.mem_singleton.1 hz] at g;exact g.symm
    ·exact⟨fun g=>absurd g e.1,fun g=>absurd g e.2⟩
 ·obtain⟨hb,b1,b2⟩:=hblk eb
  have hi:x.ins=⟨11,0,0,0,0⟩:=by unfold dw.ins;rw [cp,q];rfl
  rw [Qu (s:=s) hi (show x.r.get (m8 0)=b.1 from e0) (by omega)]
  have hm:=H.ar.mem (H.ar.sub b hb)
  have W:db (kj h s) B R sh fl:=by rw [eh];exact H.ar.upd_root (by omega) (by omega)
  obtain⟨f1,f2⟩:=RV (a:=b.1) (c:=b.2) ca W hb
  refine⟨fun g=>?_,fun g=>?_⟩
  ·obtain⟨k1,k2,k3,k4,k5,k6⟩:=f2 g
   obtain⟨B',hp,hS⟩:=H.pop hr eb
   refine⟨⟨cp,cf,cb,c7,k1,by rw [k4];exact cz⟩,.inr (.inr ⟨.inl (by show x.pos+1=6;omega),?_⟩)⟩
   have ek:sJ h (ig s b.1).1.l.r.c=eN (eN h r (h b.1)) (b.1-1) b.2:=by have k2':sJ h (ig s b.1).1.l.r.c=_:=k2;rw [k2',eh]
   show KM h B R sh (ig s b.1).1.l.r.f [] (ig s b.1).1.l.r.c
   rw [k3,ef]
   refine⟨B',b::R,sh,fl,_,by rw [ek];exact hS,List.prefix_rfl,fun d=>?_,fun d d1 d2 d3=>?_,fun y hy=>?_,fun n hn=>?_,fun d hd=>?_,fun n hn=>?_,by simp⟩
   ·simp only [List.mem_cons,List.not_mem_nil,not_false_eq_true,and_true,List.nil_append,or_false]
    constructor
    ·rintro(rfl | g)
     ·exact .inr ⟨hb,rfl⟩
     ·exact .inl g
    ·rintro(g | ⟨g,e⟩)
     ·exact .inr g
     ·exact .inl (H.ar.head_head (H.ar.sub d g) (H.ar.sub b hb) e)
   ·left
    refine⟨d1,fun g=>?_,fun g=>d3 (List.mem_cons_of_mem _ g)⟩
    rcases List.mem_cons.1 (hp.mem_iff.1 g) with rfl | g
    ·exact d3 List.mem_cons_self
    ·exact d2 g
   ·rcases k6 y hy with g | g
    ·exact .inl (by rw [pl y g];omega)
    ·exact .inr (.inl ⟨b,H.ar.sub b hb,.inl g⟩)
   ·rw [List.nil_append,List.mem_singleton] at hn
    exact⟨b.2,by rw [hn];exact hb⟩
   ·rcases List.mem_cons.1 (hp.mem_iff.1 hd) with rfl | g
    ·exact .inr (by simp)
    ·exact .inl g
   ·rw [List.nil_append,List.mem_singleton] at hn
    subst hn
    refine Classical.byContradiction fun hno=>?_
    have h1:sJ h (ig s b.1).1.l.r.c (b.1-1)=h (b.1-1):=lT fun y hy e=>hno ⟨y,hy,e⟩
    rw [ek,gL,H.ar.hdr b (H.ar.sub b hb),if_pos hb] at h1
    omega
  ·have k:=f1 g
   simp only at k ⊢
   rw [k]
   exact⟨⟨⟨cp,cf,cb,c7,ca.nd,cz⟩,.inr (.inl ⟨b,l,eb,e0,ef,q,eh,pl⟩)⟩,.inr (.inl ⟨b,H.ar.sub b hb,.inl rfl⟩)⟩
 ·rcases q with q | q
  ·have hi:x.ins=⟨21,2,0,0,0⟩:=by unfold dw.ins;rw [cp,q];rfl
   rcases KB (s:=s) hi with ⟨y,e,y1,y2,y3,y4,y5⟩ | e
   ·rw [e]
    refine⟨fun _=>⟨⟨y1.trans cp,y2.trans cf,y3.trans cb,by show y.r.r7=0;rw [y4];exact c7,ca,cz⟩,.inr (.inr ⟨.inr ?_,hE⟩)⟩,fun g=>by cases g⟩
    show y.next=7
    omega
   ·exact⟨fun g=>absurd g e.1,fun g=>absurd g e.2⟩
  ·exact absurd q e
structure Mg (r:Int)(h:Hp)(st:Int→List Bk)(x:dw)(s:fa):Prop where
 cm:Cm (GN r) h x s
 fs:s.l.r.f=[]∧s.l.r.c=[]
 at_:x.pos=0∨x.pos=1∨((x.pos=2∨x.pos=6)∧(x.r.r0=0∨∃b∈st r,x.r.r0=b.1))∨((x.pos=3∨x.pos=4∨x.pos=5)∧∃b∈st r,x.r.r0=b.1)∨x.pos=7∨x.pos=8
theorem Pw (H:I0 h B R sh fl st)(hr:r=6∨r=7){k:Nat}(hJ:Mg r h st x s) :
  ((fz k x s).2.2=1→Mg r h st (fz k x s).1 (fz k x s).2.1∧qK B sh (fz k x s).2.1.need)∧((fz k x s).2.2=2→(fz k x s).2.1.l.up=[]∧KM h B R sh (fz k x s).2.1.l.r.f [] (fz k x s).2.1.l.r.c):=by
 refine Q1 (N:=qK B sh) (E:=fun s=>s.l.up=[]∧KM h B R sh s.l.r.f [] s.l.r.c) (J:=Mg r h st) (fun x s g=>⟨g.cm.fin,g.cm.bad⟩) (fun x s g e=>?_) (fun x s g e=>?_) k x s hJ
 ·rw [g.fs.1,g.fs.2];exact⟨g.cm.ag.up,.none H⟩
 obtain⟨⟨cp,cf,cb,c7,ca,cz⟩,⟨ef,ec⟩,at_⟩:=g
 rw [cp] at e
 have e:x.pos≠8:=e
 have eh:kj h s=h:=by unfold kj;rw [ec];rfl
 have hblk:∀{b:Bk},b∈st r→b∈B∧15≤b.1∧b.1+1<256:=fun {b} e=>by
  have hb:=H.of hr (b:=b) e
  have:=H.ar.mem (H.ar.sub b hb)
  have:=gF (c:=b.2)
  exact⟨hb,by omega,by omega⟩
 rcases at_ with q | q | ⟨q | q,q0⟩ | ⟨q | q | q,b,hb0,q0⟩ | q | q
 ·have hi:x.ins=⟨1,1,0,0,1⟩:=by unfold dw.ins;rw [cp,q];rfl
  rw [IW hi]
  exact⟨fun _=>⟨⟨cp,cf,cb,c7,ca,cz⟩,⟨ef,ec⟩,.inr (.inl (by show x.pos+1=1;omega))⟩,fun g=>by cases g⟩
 ·have hi:x.ins=⟨8,0,7,r,0⟩:=by unfold dw.ins;rw [cp,q];rfl
  rcases pU (s:=s) hi (show dA x.r.r7 r=(r,0) by rw [c7];exact C5 hr) ca with e | e | e
  ·rw [e]
   refine⟨fun _=>⟨⟨cp,cf,cb,c7,ca,cz⟩,⟨ef,ec⟩,.inr (.inr (.inl ⟨.inl (by show x.pos+1=2;omega),?_⟩))⟩,fun g=>by cases g⟩
   show kj h s r=0∨∃b∈st r,kj h s r=b.1
   rw [eh]
   rcases(H.stk r hr).1.top with g | ⟨b,l,e1,e2⟩
   ·exact .inl g
   ·exact .inr ⟨b,by rw [e1];exact List.mem_cons_self,e2⟩
  ·rw [e]
   exact⟨fun g=>(by cases g),fun _=>⟨⟨⟨cp,cf,cb,c7,ca.nd,cz⟩,⟨ef,ec⟩,.inr (.inl q)⟩,.inl (by show r<14;omega)⟩⟩
  ·exact⟨fun g=>(by omega),fun g=>by omega⟩
 ·have hi:x.ins=⟨13,0,0,7,0⟩:=by unfold dw.ins;rw [cp,q];rfl
  rw [I3 (s:=s) hi]
  refine⟨fun _=>?_,fun g=>by cases g⟩
  by_cases g0:x.r.get (m8 0)=0
  ·simp only [if_pos g0]
   exact⟨⟨cp,cf,cb,c7,ca,cz⟩,⟨ef,ec⟩,.inr (.inr (.inr (.inr (.inl rfl))))⟩
  ·simp only [if_neg g0]
   rcases q0 with q0 | ⟨b,hb,q0⟩
   ·exact absurd q0 g0
   ·exact⟨⟨cp,cf,cb,c7,ca,cz⟩,⟨ef,ec⟩,.inr (.inr (.inr (.inl ⟨.inl (by show x.pos+1=3;omega),b,hb,q0⟩)))⟩
 ·have hi:x.ins=⟨12,0,0,2,0⟩:=by unfold dw.ins;rw [cp,q];rfl
  rw [PX (s:=s) hi]
  exact⟨fun _=>⟨⟨cp,cf,cb,c7,ca,cz⟩,⟨ef,ec⟩,.inr (.inr (.inl ⟨.inl rfl,q0⟩))⟩,fun g=>by cases g⟩
 ·have hi:x.ins=⟨3,2,2,1,0⟩:=by unfold dw.ins;rw [cp,q];rfl
  rw [Rs (s:=s) hi]
  exact⟨fun _=>⟨⟨cp,cf,cb,c7,ca,cz⟩,⟨ef,ec⟩,.inr (.inr (.inr (.inl ⟨.inr (.inl (by show x.pos+1=4;omega)),b,hb0,q0⟩)))⟩,fun g=>by cases g⟩
 ·obtain⟨hb,b1,b2⟩:=hblk hb0
  have hi:x.ins=⟨8,3,0,1,0⟩:=by unfold dw.ins;rw [cp,q];rfl
  rcases pU (s:=s) hi (show dA x.r.r0 1=(b.1+1,0) by rw [q0,GI b1 b2 (by decide) (by decide)]) ca with e | e | e
  ·rw [e]
   exact⟨fun _=>⟨⟨cp,cf,cb,c7,ca,cz⟩,⟨ef,ec⟩,.inr (.inr (.inr (.inl ⟨.inr (.inr (by show x.pos+1=5;omega)),b,hb0,q0⟩)))⟩,fun g=>by cases g⟩
  ·rw [e]
   refine⟨fun g=>(by cases g),fun _=>⟨⟨⟨cp,cf,cb,c7,ca.nd,cz⟩,⟨ef,ec⟩,.inr (.inr (.inr (.inl ⟨.inr (.inl q),b,hb0,q0⟩)))⟩,.body hb ?_⟩⟩
   have:=gF (c:=b.2)
   exact⟨by show b.1≤b.1+1;omega,by show b.1+1<b.1+yE b.2;omega⟩
  ·exact⟨fun g=>(by omega),fun g=>by omega⟩
 ·obtain⟨hb,b1,b2⟩:=hblk hb0
  have hi:x.ins=⟨8,0,0,0,0⟩:=by unfold dw.ins;rw [cp,q];rfl
  rcases pU (s:=s) hi (show dA x.r.r0 0=(b.1,0) by rw [q0,GI b1 b2 (by decide) (by decide),Int.add_zero]) ca with e | e | e
  ·rw [e]
   refine⟨fun _=>⟨⟨cp,cf,cb,c7,ca,cz⟩,⟨ef,ec⟩,.inr (.inr (.inl ⟨.inr (by show x.pos+1=6;omega),?_⟩))⟩,fun g=>by cases g⟩
   show kj h s b.1=0∨∃d∈st r,kj h s b.1=d.1
   rw [eh]
   exact(H.stk r hr).1.next b hb0
  ·rw [e]
   exact⟨fun g=>(by cases g),fun _=>⟨⟨⟨cp,cf,cb,c7,ca.nd,cz⟩,⟨ef,ec⟩,.inr (.inr (.inr (.inl ⟨.inr (.inr q),b,hb0,q0⟩)))⟩,.body hb (rQ hb)⟩⟩
  ·exact⟨fun g=>(by omega),fun g=>by omega⟩
 ·have hi:x.ins=⟨21,2,0,0,0⟩:=by unfold dw.ins;rw [cp,q];rfl
  rcases KB (s:=s) hi with ⟨y,e,y1,y2,y3,y4,y5⟩ | e
  ·rw [e]
   refine⟨fun _=>⟨⟨y1.trans cp,y2.trans cf,y3.trans cb,by show y.r.r7=0;rw [y4];exact c7,ca,cz⟩,⟨ef,ec⟩,.inr (.inr (.inr (.inr (.inr ?_))))⟩,fun g=>by cases g⟩
   show y.next=8
   omega
  ·exact⟨fun g=>absurd g e.1,fun g=>absurd g e.2⟩
 ·exact absurd q e
structure Vl (bs:List Int)(h:Hp)(B R sh:List Bk)(g:Nat)(s:fa):Prop where
 ag:Ag h s
 ar:∃R' fl',db (kj h s) B R' sh fl'∧∀b,b∈R'↔b∈R∧b.1 ∉ bs.take g
 off:∀p,p=6∨p=7∨(∃b∈B,mT b p)→kj h s p=h p
 pl:∀y∈s.l.r.c,qK B sh y.place
 fs:s.l.r.f=[]
theorem GU (H:I0 h B R sh fl st){bs:List Int}(hn:bs.Nodup)(hR:∀n∈bs,∃c,(n,c)∈R):∀{l:List Int}{g:Nat}{s:fa},bs.drop g=l→g≤bs.length→Vl bs h B R sh g s →
  ((eU l g s).2.2.1=1→Vl bs h B R sh (eU l g s).1 (eU l g s).2.1∧qK B sh (eU l g s).2.1.need∧(eU l g s).1≤bs.length)∧((eU l g s).2.2.1=2→(eU l g s).2.1.l.up=[]∧KM h B R sh [] bs (eU l g s).2.1.l.r.c∧(eU l g s).2.1.l.r.f=[])
 | [],g,s,e,hg,hJ=>by
  refine⟨fun g=>(by cases g),fun _=>?_⟩
  obtain⟨R',fl',W,hm⟩:=hJ.ar
  have hlen:=List.drop_eq_nil_iff.1 e
  have et:bs.take g=bs:=List.take_of_length_le hlen
  rw [et] at hm
  refine⟨hJ.ag.up,⟨B,R',sh,fl',st,H.frame W hJ.off,List.prefix_rfl,fun b=>?_,fun b b1 b2 b3=>?_,hJ.pl,fun n hn=>by(cases hn),fun b hb=>.inl hb,fun n hn=>by(cases hn),by simp⟩,hJ.fs⟩
  ·rw [hm];simp
  ·by_cases g:b.1∈bs
   ·exact .inr g
   ·exact .inl ⟨b1,b2,fun g2=>b3 ((hm b).2 ⟨g2,g⟩)⟩
 | a::l,g,s,e,hg,hJ=>by
  have hlt:g<bs.length:=by
   rcases Nat.lt_or_ge g bs.length with q | q
   ·exact q
   ·rw [List.drop_eq_nil_of_le q] at e;cases e
  have hd:=List.drop_eq_getElem_cons hlt
  rw [e] at hd
  obtain⟨ea,el⟩:=List.cons.inj hd
  have ha:a∈bs:=by rw [ea];exact List.getElem_mem hlt
  obtain⟨c,hc⟩:=hR a ha
  obtain⟨R',fl',W,hm⟩:=hJ.ar
  have hnt:a ∉ bs.take g:=fun q=>by
   have h1:bs.take g++bs.drop g=bs:=List.take_append_drop g bs
   rw [←h1] at hn
   exact(List.nodup_append.1 hn).2.2 a q a (by rw [e];exact List.mem_cons_self) rfl
  have hc':(a,c)∈R':=(hm _).2 ⟨hc,hnt⟩
  obtain⟨r1,r2,_⟩:=W.rest _ hc'
  have hmm:=W.mem r1
  simp only at hmm
  obtain⟨g1,g2⟩:=UM hJ.ag W r1 r2
  unfold eU
  by_cases c0:(gY s a).2=0
  ·rw [if_pos c0]
   obtain⟨k1,k2,k3,k4,k5,k6⟩:=g2 c0
   refine GU H hn hR el.symm hlt ⟨k1,?_,fun p hp=>?_,fun y hy=>?_,k3.trans hJ.fs⟩
   ·have hp:=List.perm_cons_erase hc'
    obtain⟨fl2,W2⟩:=(W.permR hp).give
    refine⟨R'.erase (a,c),fl2,by rw [k2];exact W2,fun b=>?_⟩
    rw [W.rnd.mem_erase_iff,hm,List.take_succ_eq_append_getElem hlt,List.mem_append,List.mem_singleton,←ea]
    constructor
    ·rintro⟨q1,q2,q3⟩
     refine⟨q2,fun q=>q.elim q3 fun q=>q1 ?_⟩
     have hb:=W.rest b ((hm b).2 ⟨q2,q3⟩)
     exact W.head_head hb.1 r1 q
    ·rintro⟨q1,q2⟩
     exact⟨fun q=>q2 (.inr (by rw [q])),q1,fun q=>q2 (.inl q)⟩
   ·rw [k2]
    have hne:p≠a∧p≠c:=by
     rcases hp with q | q | ⟨b,hb,q⟩
     ·omega
     ·omega
     ·have hb2:=W.mem (W.sub b hb)
      refine⟨fun e=>?_,by unfold mT at q;omega⟩
      subst e
      have:=W.body (W.sub b hb) r1 q pT
      subst this
      exact r2 hb
    rw [bv hne.2,bv hne.1]
    exact hJ.off p hp
   ·rcases k6 y hy with q | q | q
    ·exact hJ.pl y q
    ·exact .inl q
    ·exact .inr (.inl ⟨_,r1,.inr q⟩)
  ·rw [if_neg c0]
   by_cases c11:(gY s a).2=11
   ·rw [if_pos c11]
    refine⟨fun _=>?_,fun q=>(by cases q)⟩
    obtain⟨p,e1,e2⟩:=g1 c11
    simp only
    rw [e1]
    exact⟨⟨hJ.ag.nd,hJ.ar,hJ.off,hJ.pl,hJ.fs⟩,e2,hg⟩
   ·rw [if_neg c11]
    exact⟨fun q=>(by cases q),fun q=>(by cases q)⟩
end
end Go.Proofs.YtoealglbimbbmaaGreatDoor.S
namespace Go.Proofs.YtoealglbimbbmaaGreatDoor.S
open Go Go.Proofs
set_option linter.unusedVariables false
set_option linter.unusedSimpArgs false
structure Rc where
 stamp:Int
 ks:List av
 cells:List av
 fs:List Int
 gs:List gC
abbrev Rc.gl (x:Rc):List Int:=x.gs.map (·.place)
structure Sg where
 B:List Bk
 R:List Bk
 sh:List Bk
 fl:Int→List Int
 st:Int→List Bk
abbrev Fm (h:Hp)(σ:Sg):Prop:=I0 h σ.B σ.R σ.sh σ.fl σ.st
def Tj (x:Rc):Prop:=∀h σ,Fm h σ→(∀c∈x.ks,h c.place=c.word)→(∀n∈x.gl,∃c,(n,c)∈σ.R)→KM h σ.B σ.R σ.sh x.fs x.gl x.cells
structure Tr (h:Hp)(σ:Sg)(x:Rc)(σ':Sg):Prop where
 sh:Fm (sJ h x.cells) σ'
 pre:σ.sh <+: σ'.sh
 R:∀b,b∈σ'.R↔(b∈σ.R∧b.1 ∉ x.gl)∨(b∈σ.B∧b.1∈x.fs)
 free:∀b∈σ'.sh,b ∉ σ'.B→b ∉ σ'.R→(b∈σ.sh∧b ∉ σ.B∧b ∉ σ.R)∨b.1∈x.gl
 pl:∀y∈x.cells,qK σ'.B σ'.sh y.place
 fs:∀n∈x.fs,∃c,(n,c)∈σ.B
inductive xE:Hp→Sg→List Rc→Hp→Sg→Prop
 | nil {h σ}:xE h σ [] h σ
 | cons {h σ x σ1 Q h' σ'}:Tr h σ x σ1→xE (sJ h x.cells) σ1 Q h' σ'→xE h σ (x::Q) h' σ'
abbrev Rc.lg (x:Rc):Int×List av:=(x.stamp,x.cells)
section
variable {h h' h0:Hp}{σ σ' σ0:Sg}{Q Q' p q:List Rc}{x:Rc}{t:Int}{L:pj}
theorem xE.append (H:xE h σ p h' σ'):∀{q h2 σ2},xE h' σ' q h2 σ2→xE h σ (p++q) h2 σ2:=by
 induction H with
 | nil=>intro q h2 σ2 H;exact H
 | cons t _ ih=>intro q h2 σ2 H;exact .cons t (ih H)
theorem xE.split:∀{p:List Rc}{h:Hp}{σ:Sg},xE h σ (p++q) h' σ'→∃h1 σ1,xE h σ p h1 σ1∧xE h1 σ1 q h' σ'
 | [],h,σ,H=>⟨h,σ,.nil,H⟩
 | x::p,h,σ,H=>by
  cases H with
  | cons t H=>obtain⟨h1,σ1,a,b⟩:=xE.split H;exact⟨h1,σ1,.cons t a,b⟩
theorem xE.heap (H:xE h σ Q h' σ'):h'=Ik h (Q.map (·.lg)):=by
 induction H with
 | nil=>rfl
 | cons _ _ ih=>rw [ih];rfl
theorem xE.shp (H:xE h σ Q h' σ')(hs:Fm h σ):Fm h' σ':=by
 induction H with
 | nil=>exact hs
 | cons t _ ih=>exact ih t.sh
theorem xE.pre (H:xE h σ Q h' σ'):∀b∈σ.sh,b∈σ'.sh:=by
 induction H with
 | nil=>exact fun b hb=>hb
 | cons t _ ih=>exact fun b hb=>ih b (t.pre.subset hb)
theorem xE.rest (H:xE h σ Q h' σ'):∀b∈σ.R,(∀x∈Q,b.1 ∉ x.gl)→b∈σ'.R:=by
 induction H with
 | nil=>exact fun b hb _=>hb
 | cons t _ ih=>exact fun b hb hn=>ih b ((t.R b).2 (.inl ⟨hb,hn _ List.mem_cons_self⟩)) fun x hx=>hn x (List.mem_cons_of_mem _ hx)
theorem xE.free (H:xE h σ Q h' σ'):∀b∈σ'.sh,b ∉ σ'.B→b ∉ σ'.R→(b∈σ.sh∧b ∉ σ.B∧b ∉ σ.R)∨∃x∈Q,b.1∈x.gl:=by
 induction H with
 | nil=>exact fun b h1 h2 h3=>.inl ⟨h1,h2,h3⟩
 | cons t _ ih =>
  intro b h1 h2 h3
  rcases ih b h1 h2 h3 with ⟨g1,g2,g3⟩ | ⟨x,hx,g⟩
  ·rcases t.free b g1 g2 g3 with g | g
   ·exact .inl g
   ·exact .inr ⟨_,List.mem_cons_self,g⟩
  ·exact .inr ⟨x,List.mem_cons_of_mem _ hx,g⟩
structure TR (h0:Hp)(σ0:Sg)(Q:List Rc):Prop where
 log:(Q.map (·.lg)).Pairwise mo
 ok:∀x∈Q,Tj x
 rd:∀x∈Q,∀c∈x.ks,wP h0 (Q.map (·.lg)) (x.stamp-1) c.place=c.word
 gs:∀x∈Q,∀g∈x.gs,g.stamp<x.stamp∧(∃F∈Q,F.stamp=g.stamp∧g.place∈F.fs)∧∀D∈Q,g.place∈D.gl→D.stamp<g.stamp∨x.stamp≤D.stamp
 nogs:∀x∈Q,x.fs≠[]→x.gs=[]
 st0:Fm h0 σ0
theorem DH {p q:List Rc}{t:Int}(hs:((p++q).map (·.lg)).Pairwise mo)(h1:∀x∈p,x.stamp≤t)(h2:∀x∈q,t<x.stamp):wP h0 ((p++q).map (·.lg)) t=Ik h0 (p.map (·.lg)):=by
 unfold wP
 rw [List.map_append,List.filter_append,List.filter_eq_self.2,List.filter_eq_nil_iff.2,List.append_nil]
 ·intro y hy
  obtain⟨x,hx,rfl⟩:=List.mem_map.1 hy
  have:=h2 x hx
  simp only [decide_eq_true_eq]
  show ¬x.stamp≤t
  omega
 ·intro y hy
  obtain⟨x,hx,rfl⟩:=List.mem_map.1 hy
  simpa using h1 x hx
theorem PF {p q:List Rc}(hs:((p++x::q).map (·.lg)).Pairwise mo):(∀y∈p,y.stamp<x.stamp)∧∀y∈q,x.stamp<y.stamp:=by
 rw [List.map_append,List.pairwise_append,List.map_cons,List.pairwise_cons] at hs
 refine⟨fun y hy=>hs.2.2 _ (List.mem_map.2 ⟨y,hy,rfl⟩) _ List.mem_cons_self,fun y hy=>hs.2.1.1 _ (List.mem_map.2 ⟨y,hy,rfl⟩)⟩
theorem GL {F:Rc}(h:F∈Q):∃p q,Q=p++F::q:=List.append_of_mem h
theorem xE.rests (H:xE h0 σ0 p h σ)(hs:(p.map (·.lg)).Pairwise mo){F:Rc}{n:Int}(hF:F∈p)(hn:n∈F.fs)(hg:∀D∈p,n∈D.gl→D.stamp<F.stamp):∃c,(n,c)∈σ.R:=by
 obtain⟨p1,p2,rfl⟩:=GL hF
 obtain⟨h1,σ1,_,H2⟩:=H.split
 cases H2 with
 | cons t H2 =>
  obtain⟨c,hc⟩:=t.fs n hn
  refine⟨c,H2.rest _ ((t.R _).2 (.inr ⟨hc,hn⟩)) fun x hx g=>?_⟩
  have h1:=(PF hs).2 x hx
  have h2:=hg x (List.mem_append_right _ (List.mem_cons_of_mem _ hx)) g
  omega
theorem TR.chain (H:TR h0 σ0 Q):∀{q p:List Rc}{h:Hp}{σ:Sg},Q=p++q→xE h0 σ0 p h σ→∃h' σ',xE h σ q h' σ'
 | [],p,h,σ,_,_=>⟨h,σ,.nil⟩
 | x::q,p,h,σ,e,hc=>by
  have hx:x∈Q:=by rw [e];simp
  have hlog:=H.log
  rw [e] at hlog
  obtain⟨l1,l2⟩:=PF hlog
  have hp:(p.map (·.lg)).Pairwise mo:=by rw [List.map_append,List.pairwise_append] at hlog;exact hlog.1
  have hE:=H.ok x hx h σ (hc.shp H.st0) (fun c hcm=>by
   have h1:=H.rd x hx c hcm
   rw [e,DH hlog (fun y hy=>by have:=l1 y hy;omega) (fun y hy=>by rcases List.mem_cons.1 hy with rfl | hy;omega;have:=l2 y hy;omega)] at h1
   rw [hc.heap];exact h1) (fun n hn=>by
   obtain⟨g,hg,rfl⟩:=List.mem_map.1 hn
   obtain⟨g1,⟨F,hF,g2,g3⟩,g4⟩:=H.gs x hx g hg
   have hFp:F∈p:=by
    rw [e] at hF
    rcases List.mem_append.1 hF with q | q
    ·exact q
    ·rcases List.mem_cons.1 q with rfl | q
     ·omega
     ·have:=l2 F q;omega
   refine hc.rests hp hFp g3 fun D hD hd=>?_
   have h1:=g4 D (by rw [e];exact List.mem_append_left _ hD) hd
   have:=l1 D hD
   omega)
  obtain⟨B',R',sh',fl',st',e1,e2,e3,e4,e5,e6,_⟩:=hE.ex
  have t:Tr h σ x ⟨B',R',sh',fl',st'⟩:=⟨e1,e2,e3,e4,e5,e6⟩
  obtain⟨h',σ',hq⟩:=H.chain (q:=q) (p:=p++[x]) (h:=sJ h x.cells) (by rw [e];simp) (hc.append (.cons t .nil))
  exact⟨h',σ',.cons t hq⟩
theorem TR.at_ (H:TR h0 σ0 Q)(t:Int):∃σ h' σ',xE h0 σ0 (Q.filter fun x=>decide (x.stamp≤t)) (wP h0 (Q.map (·.lg)) t) σ∧xE (wP h0 (Q.map (·.lg)) t) σ (Q.filter fun x=>decide (t<x.stamp)) h' σ'∧h'=Ik h0 (Q.map (·.lg)):=by
 have e:Q=(Q.filter fun x=>decide (x.stamp≤t))++(Q.filter fun x=>decide (t<x.stamp)):=by
  have hl:=H.log
  clear H
  induction Q with
  | nil=>rfl
  | cons x Q ih =>
   rw [List.map_cons,List.pairwise_cons] at hl
   by_cases g:x.stamp≤t
   ·rw [List.filter_cons_of_pos (by simpa using g),List.filter_cons_of_neg (by simpa using g),List.cons_append,←ih hl.2]
   ·have hall:∀y∈Q,t<y.stamp:=fun y hy=>by
     have:x.stamp<y.stamp:=hl.1 _ (List.mem_map.2 ⟨y,hy,rfl⟩)
     omega
    rw [List.filter_cons_of_neg (by simpa using g),List.filter_eq_nil_iff.2 (fun y hy=>by have:=hall y hy;simp;omega),List.nil_append,List.filter_cons_of_pos (by simp;omega),List.filter_eq_self.2 (fun y hy=>by simpa using hall y hy)]
 obtain⟨h',σ',hc⟩:=H.chain (p:=[]) (q:=Q) rfl (xE.nil)
 have hh:=hc.heap
 generalize hp:(Q.filter fun x=>decide (x.stamp≤t))=p at e
 generalize hq:(Q.filter fun x=>decide (t<x.stamp))=q at e
 have h1:∀x∈p,x.stamp≤t:=fun x hx=>by rw [←hp] at hx;simpa using (List.mem_filter.1 hx).2
 have h2:∀x∈q,t<x.stamp:=fun x hx=>by rw [←hq] at hx;simpa using (List.mem_filter.1 hx).2
 rw [e] at hc
 obtain⟨h1',σ1,c1,c2⟩:=hc.split
 have e1:=c1.heap
 have e2:wP h0 (Q.map (·.lg)) t=h1':=by
  have hlog:=H.log
  rw [e] at hlog ⊢
  rw [DH hlog h1 h2,e1]
 rw [e2]
 exact⟨σ1,h',σ',c1,c2,hh⟩
theorem TR.safe (H:TR h0 σ0 Q){t:Int}{pl:Int}(hN:∀σ h1,h1=wP h0 (Q.map (·.lg)) t→xE h0 σ0 (Q.filter fun x=>decide (x.stamp≤t)) h1 σ→qK σ.B σ.sh pl)(hE:∀D∈Q,∀g∈D.gs,g.stamp≤t) :
  ∃σ',Fm (Ik h0 (Q.map (·.lg))) σ'∧∀c,1≤c→c≤4→∀a∈σ'.fl c,¬(a<pl∧pl<a+yE c):=by
 obtain⟨σ,h',σ',c1,c2,e⟩:=H.at_ t
 have s1:=c1.shp H.st0
 have s2:=c2.shp s1
 rw [e] at s2
 refine⟨σ',s2,fun c hc1 hc4 a ha hb=>?_⟩
 obtain⟨f1,f2⟩:=(s2.ar.free c hc1 hc4).2.2 a ha
 have hm:=s2.ar.mem f1
 simp only at hm
 have hbody:mT (a,c) pl:=⟨by show a≤pl;omega,hb.2⟩
 rcases hN σ _ rfl c1 with g | ⟨b,hbs,g | g⟩ | ⟨b,hbB,g⟩
 ·omega
 ·exact s2.ar.head_body f1 (c2.pre b hbs) hbody g
 ·have:=s2.ar.body f1 (c2.pre b hbs) hbody (by rw [g];exact pT (a:=b.1) (c:=b.2))
  subst this
  have g:pl=a:=g
  omega
 ·have:=s2.ar.body (c2.pre b (s1.ar.sub b hbB)) f1 g hbody
  subst this
  have hnR:(a,c) ∉ σ'.R:=fun q=>(s2.ar.rest _ q).2.2 ha
  rcases c2.free _ f1 f2 hnR with ⟨_,q,_⟩ | ⟨D,hD,q⟩
  ·exact q hbB
  ·obtain⟨hD1,hD2⟩:=List.mem_filter.1 hD
   simp only [decide_eq_true_eq] at hD2
   obtain⟨gr,hgr,eg⟩:=List.mem_map.1 q
   have eg:gr.place=a:=eg
   obtain⟨q1,⟨F,hF,q2,q3⟩,q4⟩:=H.gs D hD1 gr hgr
   have q5:=hE D hD1 gr hgr
   have hpw:((Q.filter fun x=>decide (x.stamp≤t)).map (·.lg)).Pairwise mo:=by
    have:=H.log
    rw [List.pairwise_map] at this ⊢
    exact this.filter _
   obtain⟨c',hc'⟩:=c1.rests hpw (F:=F) (n:=a) (List.mem_filter.2 ⟨hF,by simp;omega⟩) (by rw [←eg];exact q3) (fun D' hD' hd=>by
    obtain⟨k1,k2⟩:=List.mem_filter.1 hD'
    simp only [decide_eq_true_eq] at k2
    have:=q4 D' k1 (by rw [eg];exact hd)
    omega)
   obtain⟨k1,k2,_⟩:=s1.ar.rest _ hc'
   have:=s1.ar.head_head k1 (s1.ar.sub _ hbB) rfl
   rw [this] at k2
   exact k2 hbB
end
def yD (x:Rc):List Rc→List Rc
 | []=>[x]
 | y::Q=>if x.stamp<y.stamp then x::y::Q else y::yD x Q
section
variable {h0:Hp}{σ0:Sg}{Q:List Rc}{P P':List gC}{x y:Rc}
theorem Db:∀{Q:List Rc},(yD x Q).map (·.lg)=rz x.stamp x.cells (Q.map (·.lg))
 | []=>rfl
 | y::Q=>by
  unfold yD
  rw [List.map_cons]
  unfold rz
  split
  ·rfl
  ·rw [List.map_cons,Db]
theorem fH:∀{Q:List Rc},y∈yD x Q↔y=x∨y∈Q
 | []=>by simp [yD]
 | z::Q=>by
  unfold yD
  split
  ·simp
  ·rw [List.mem_cons,fH,List.mem_cons]
   constructor
   ·rintro(h | h | h)
    ·exact .inr (.inl h)
    ·exact .inl h
    ·exact .inr (.inr h)
   ·rintro(h | h | h)
    ·exact .inr (.inl h)
    ·exact .inl h
    ·exact .inr (.inr h)
structure QP (h0:Hp)(σ0:Sg)(Q:List Rc)(P:List gC):Prop where
 q:TR h0 σ0 Q
 p:∀g∈P,(∃F∈Q,F.stamp=g.stamp∧g.place∈F.fs)∧∀D∈Q,g.place∈D.gl→D.stamp<g.stamp
 nd:(P.map (·.place)).Nodup
 hd:∀x∈Q,∀n∈x.fs,∃y∈x.cells,y.place=n-1
theorem QP.perm (H:QP h0 σ0 Q P)(e:P.Perm P'):QP h0 σ0 Q P':=⟨H.q,fun g hg=>H.p g (e.mem_iff.2 hg),(e.map _).nodup_iff.1 H.nd,H.hd⟩
theorem Mj {t:Int}(hl:(Q.map (·.lg)).Pairwise mo)(dis:∀y∈Q,x.stamp<y.stamp→∀u∈y.cells,∀v∈x.cells,u.place≠v.place)(ht:t<x.stamp):wP h0 ((yD x Q).map (·.lg)) t=wP h0 (Q.map (·.lg)) t:=by
 funext c
 rw [Db,Dg hl,if_neg (by omega)]
 intro z hz h1 u hu v hv
 obtain⟨y,hy,rfl⟩:=List.mem_map.1 hz
 exact dis y hy h1 u hu v hv
theorem QP.put (H:QP h0 σ0 Q P)(hx:Tj x)(dis:∀y∈Q,x.stamp<y.stamp→∀u∈y.cells,∀v∈x.cells,u.place≠v.place)(new:∀y∈Q,y.stamp≠x.stamp)
  (rd:∀y∈yD x Q,∀c∈y.ks,wP h0 ((yD x Q).map (·.lg)) (y.stamp-1) c.place=c.word)
  (hfn:x.fs.Nodup) (hh:∀n∈x.fs,∃y∈x.cells,y.place=n-1) (hng:x.fs≠[]→x.gs=[]) (hP:P.Perm (x.gs++P')) (hst:∀g∈x.gs,g.stamp<x.stamp) :
  QP h0 σ0 (yD x Q) (P'++x.fs.map fun n=>⟨n,x.stamp⟩):=by
 have hgP:∀g∈x.gs,g∈P:=fun g hg=>hP.mem_iff.2 (List.mem_append_left _ hg)
 have hlog:=H.q.log
 have hnd:((x.gs++P').map (·.place)).Nodup:=(hP.map _).nodup_iff.1 H.nd
 rw [List.map_append,List.nodup_append] at hnd
 have key:∀n∈x.fs,∀F∈Q,n∈F.fs→(∀D∈Q,D.stamp<x.stamp→n∈D.gl→D.stamp<F.stamp)→False:=fun n hn F hF hnF hg=>by
  have g0:=hng (fun e=>by rw [e] at hn;cases hn)
  rcases Int.lt_or_gt_of_ne (new F hF) with g | g
  ·obtain⟨σ,_,_,c1,_,_⟩:=H.q.at_ (x.stamp-1)
   have s1:=c1.shp H.q.st0
   have hE:=hx _ σ s1 (fun c hc=>by
    have:=rd x (fH.2 (.inl rfl)) c hc
    rw [Mj hlog dis (by omega)] at this
    exact this) (fun n hn=>by have hn:n∈x.gs.map (·.place):=hn;rw [g0] at hn;cases hn)
   obtain⟨_,_,_,_,_,_,_,_,_,_,e6,_⟩:=hE.ex
   obtain⟨c,hc⟩:=e6 n hn
   have hpw:((Q.filter fun y=>decide (y.stamp≤x.stamp-1)).map (·.lg)).Pairwise mo:=by
    rw [List.pairwise_map] at hlog ⊢
    exact hlog.filter _
   obtain⟨c',hc'⟩:=c1.rests hpw (F:=F) (n:=n) (List.mem_filter.2 ⟨hF,by simp;omega⟩) hnF (fun D hD hd=>by
    obtain⟨k1,k2⟩:=List.mem_filter.1 hD
    simp only [decide_eq_true_eq] at k2
    exact hg D k1 (by omega) hd)
   obtain⟨k1,k2,_⟩:=s1.ar.rest _ hc'
   have:=s1.ar.head_head k1 (s1.ar.sub _ hc) rfl
   rw [this] at k2
   exact k2 hc
  ·obtain⟨u,hu,e1⟩:=H.hd F hF n hnF
   obtain⟨v,hv,e2⟩:=hh n hn
   exact dis F hF g u hu v hv (by rw [e1,e2])
 have ha:∀n∈x.fs,∀D∈Q,n∈D.gl→D.stamp<x.stamp:=fun n hn D hD hd=>by
  rcases Int.lt_or_gt_of_ne (new D hD) with g | g
  ·exact g
  ·exfalso
   obtain⟨gr,hgr,e⟩:=List.mem_map.1 hd
   have e:gr.place=n:=e
   subst e
   obtain⟨q1,⟨F,hF,q2,q3⟩,q4⟩:=H.q.gs D hD gr hgr
   refine key _ hn F hF q3 fun D' hD' hl hd'=>?_
   have:=q4 D' hD' hd'
   omega
 have hb:∀n∈x.fs,∀g∈P,g.place≠n:=fun n hn g hg e=>by
  subst e
  obtain⟨⟨F,hF,q2,q3⟩,q4⟩:=H.p g hg
  exact key _ hn F hF q3 fun D' hD' hl hd'=>by have:=q4 D' hD' hd';omega
 refine⟨⟨?_,fun y hy0=>?_,rd,fun y hy0 g hg0=>?_,fun y hy0=>?_,H.q.st0⟩,fun g hg0=>?_,?_,fun y hy0=>?_⟩
 ·rw [Db]
  exact vP hlog fun z hz=>by
   obtain⟨y,hy,rfl⟩:=List.mem_map.1 hz
   exact new y hy
 ·rcases fH.1 hy0 with rfl | hy
  ·exact hx
  ·exact H.q.ok y hy
 ·rcases fH.1 hy0 with rfl | hy
  ·obtain⟨⟨F,hF,q2,q3⟩,q4⟩:=H.p g (hgP g hg0)
   refine⟨hst g hg0,⟨F,fH.2 (.inr hF),q2,q3⟩,fun D hD hd=>?_⟩
   rcases fH.1 hD with rfl | hD
   ·exact .inr (Int.le_refl _)
   ·exact .inl (q4 D hD hd)
  ·obtain⟨q1,⟨F,hF,q2,q3⟩,q4⟩:=H.q.gs y hy g hg0
   refine⟨q1,⟨F,fH.2 (.inr hF),q2,q3⟩,fun D hD hd=>?_⟩
   rcases fH.1 hD with rfl | hD
   ·obtain⟨g',hg',e⟩:=List.mem_map.1 hd
    have e:g'.place=g.place:=e
    have h1:=(H.p g' (hgP g' hg')).2 y hy (by rw [e];exact List.mem_map.2 ⟨g,hg0,rfl⟩)
    have h2:=hst g' hg'
    exact .inr (by omega)
   ·exact q4 D hD hd
 ·rcases fH.1 hy0 with rfl | hy
  ·exact hng
  ·exact H.q.nogs y hy
 ·rcases List.mem_append.1 hg0 with hg | hg
  ·obtain⟨⟨F,hF,q2,q3⟩,q4⟩:=H.p g (hP.mem_iff.2 (List.mem_append_right _ hg))
   refine⟨⟨F,fH.2 (.inr hF),q2,q3⟩,fun D hD hd=>?_⟩
   rcases fH.1 hD with rfl | hD
   ·exact absurd rfl (hnd.2.2 _ hd _ (List.mem_map.2 ⟨g,hg,rfl⟩))
   ·exact q4 D hD hd
  ·obtain⟨n,hn,rfl⟩:=List.mem_map.1 hg
   refine⟨⟨x,fH.2 (.inl rfl),rfl,hn⟩,fun D hD hd=>?_⟩
   rcases fH.1 hD with rfl | hD
   ·have:=hng (fun e=>by rw [e] at hn;cases hn)
    have hd:n∈D.gs.map (·.place):=hd
    rw [this] at hd
    cases hd
   ·exact ha n hn D hD hd
 ·rw [List.map_append,List.nodup_append]
  refine⟨hnd.2.1,?_,fun a h1 b h2 e=>?_⟩
  ·rw [List.map_map]
   exact(List.map_id x.fs).symm ▸ hfn
  ·subst e
   obtain⟨g,hg,rfl⟩:=List.mem_map.1 h1
   rw [List.map_map] at h2
   obtain⟨n,hn,e⟩:=List.mem_map.1 h2
   exact hb n hn g (hP.mem_iff.2 (List.mem_append_right _ hg)) e.symm
 ·rcases fH.1 hy0 with rfl | hy
  ·exact hh
  ·exact H.hd y hy
end
end Go.Proofs.YtoealglbimbbmaaGreatDoor.S
