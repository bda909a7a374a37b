import Derived.Test.YtoealglbimbbmaaGreatDoorOPm
namespace Go.Proofs.YtoealglbimbbmaaGreatDoor.S
open Go Go.Proofs
set_option linter.unusedVariables false
set_option linter.unusedSimpArgs false
structure lC (str:Int→Nat)(h0:Hp)(n:Nat)(G:Gs)(nl nw i:Nat)(ks:List au)(x:eJ):Prop where
 ok:iK x
 me:x.me=i
 st:∀s∈x.stripes,0≤s∧s<nl
 rdst:∀z∈x.seen,0≤z.stripe∧z.stripe<nl
 free:∀l∈x.was,l.held=false∧l.owner=0
 cov:∀y∈x.cells,((str y.place:Nat):Int)∈x.stripes
 nd:(x.cells.map (·.place)).Nodup
 inw:∀y∈x.cells,1≤y.place∧y.place<nw
 nec:x.cells≠[]
 fin:x.pat.fin=0∨x.pat.fin=2∨x.pat.fin=4∨x.pat.fin=5
 wr:x.writing=true↔(x.pat.fin=2∨(x.pat.fin=0∧(x.state=5∨x.state=6)))
 fin7:x.pat.fin=0→x.state=7→x.fin=4∨x.fin=5
 lock:x.pat.fin=0→x.state=1→x.lock.held=false∧x.lock.owner=0∧x.lock.version<4611686018427387904
 now:x.pat.fin=0→x.state=3→0≤x.now∧x.stamp≤x.now∧x.now<4611686018427387903
 stamp:0≤x.stamp∧x.stamp≤G.T
 le:(x.writing=true∨(x.pat.fin=0∧x.state=4))→x.stamp≤x.now∧x.now+1≤G.T
 good1:x.writing=false→∀z∈x.seen,iC str h0 n G i x.stamp ks z.stripe.toNat z.version
 good2:x.pat.fin=0→x.state=4→∀j z,j<x.pos→x.seen[j]? = some z→iC str h0 n G i x.now ks z.stripe.toNat z.version
 good3:x.writing=true→∀z∈x.seen,iC str h0 n G i x.now ks z.stripe.toNat z.version
structure Tk (x x':eJ):Prop where
 seen:x'.seen=x.seen
 cells:x'.cells=x.cells
 stamp:x'.stamp=x.stamp
 me:x'.me=x.me
def Ql (L L':tW)(x x':eJ):Prop:=(L'=L∧x'.writing=x.writing∧(x.writing=true→x'.now=x.now))∨(L'=vE (x'.now+1) x.cells L∧x.writing=false∧x'.writing=true∧∀y∈L,y.1≠x'.now+1)
section
variable {str:Int→Nat}{h0:Hp}{n me i nl nw:Nat}{G G':Gs}{τ:Int}{ks:List au}{s:Nat}{v:Int}{m:gn}{L:tW}{X:Nat→Hx}{x:eJ}
theorem lC.tr (h:lC str h0 n G nl nw i ks x)(hg:z8 str h0 n me G G')(hm:me<n)(hne:i≠me):lC str h0 n G' nl nw i ks x :=
 ⟨h.ok,h.me,h.st,h.rdst,h.free,h.cov,h.nd,h.inw,h.nec,h.fin,h.wr,h.fin7,h.lock,h.now,⟨h.stamp.1,Int.le_trans h.stamp.2 hg.T⟩,fun g=>⟨(h.le g).1,Int.le_trans (h.le g).2 hg.T⟩,
  fun g z hz=>hg.good hm hne h.stamp.2 (h.good1 g z hz),fun g g2 j z hj hz=>hg.good hm hne (by have:=(h.le (.inr ⟨g,g2⟩)).2;omega) (h.good2 g g2 j z hj hz),fun g z hz=>hg.good hm hne (by have:=(h.le (.inl g)).2;omega) (h.good3 g z hz)⟩
theorem kM {x':eJ}(hX:X i=gT x)(e:gT x'=gT x):dz m L (cq X i (gT x'))=dz m L X :=
 Gs.ext' (fun _=>rfl) (fun _=>rfl) rfl rfl fun k=>by show cq X i (gT x') k=X k;rw [e];exact HO hX k
theorem Lo (h:gR x):((x.stripes.zip x.was).map fun p=>(p.1.toNat,p.2.version)).length=x.was.length:=by
 have:=h.was
 simp;omega
theorem PI (h:gR x){k:Nat}(hk:k<x.was.length):((x.stripes.zip x.was).map fun p=>(p.1.toNat,p.2.version))[k]? = some ((x.stripes.getD k 0).toNat,(x.was.getD k ah).version):=by
 have:=h.was
 rw [List.getElem?_map,List.getElem?_eq_getElem (by simp;omega)]
 simp only [List.getElem_zip,Option.map_some,Option.some.injEq,Prod.mk.injEq]
 rw [List.getD_eq_getElem?_getD,List.getElem?_eq_getElem (by omega),List.getD_eq_getElem?_getD,List.getElem?_eq_getElem hk]
 exact⟨rfl,rfl⟩
theorem Qy (h:gR x)(hw:x.was.length=x.stripes.length){a:Int}(ha:a∈x.stripes):∃V,(a.toNat,V)∈(x.stripes.zip x.was).map fun p=>(p.1.toNat,p.2.version):=by
 obtain⟨k,hk,e⟩:=List.getElem_of_mem ha
 have:=PI h (k:=k) (by omega)
 rw [List.getD_eq_getElem?_getD,List.getElem?_eq_getElem hk] at this
 exact⟨_,by have:=List.mem_of_getElem? this;rw [←e];exact this⟩
theorem M4 (hf:x.pat.fin=0)(hs:x.state=0∨x.state=1∨x.state=2∨x.state=3){e er b:Int}(he:e≠0){p:oU}(hp:p.fin=0):gT (gw { x with pat:=p } e er b)=gT x:=by
 have hx:gT x=⟨(x.stripes.zip x.was).map fun p=>(p.1.toNat,p.2.version),none,false,[],0⟩:=by
  unfold gT Ez
  rcases hs with g | g | g | g <;> simp [g,hf]
 rw [hx]
 unfold gw iu
 split
 ·rename_i g
  have g:0=x.was.length:=g
  have:x.was=[]:=List.eq_nil_of_length_eq_zero g.symm
  simp [gT,oU.stop,he,this]
 ·simp [gT,Ez,hp]
theorem KL (h:lC str h0 n G nl nw i ks x)(hf:x.pat.fin=0)(hs:x.state=0∨x.state=1∨x.state=2∨x.state=3∨x.state=4){e er b:Int}(he:e=4∨e=5){p:oU}(hp:p.fin=0):lC str h0 n G nl nw i ks (gw { x with pat:=p } e er b)∧Tk x (gw { x with pat:=p } e er b)∧(gw { x with pat:=p } e er b).writing=false∧x.writing=false:=by
 have hw:x.writing=false:=by
  cases g:x.writing with
  | false=>rfl
  | true=>have:=h.wr.1 g;omega
 have hl:gR ({ x with pat:=p }:eJ):=h.ok.len.eqs rfl rfl rfl rfl
 have ho:=ng hl (e:=e) (er:=er) (b:=b) (by omega)
 revert ho
 unfold gw iu
 split
 ·intro ho
  refine⟨⟨ho,h.me,h.st,h.rdst,h.free,h.cov,h.nd,h.inw,h.nec,.inr (.inr he),?_,?_,?_,?_,h.stamp,?_,fun _=>h.good1 hw,?_,?_⟩,⟨rfl,rfl,rfl,rfl⟩,hw,hw⟩
  all_goals simp only [oU.stop,hw]
  ·simp;omega
  all_goals first | (intro g;exfalso;omega) | (intro g;exfalso;simp at g <;> omega) | (intro g;cases g)
 ·intro ho
  refine⟨⟨ho,h.me,h.st,h.rdst,h.free,h.cov,h.nd,h.inw,h.nec,.inl hp,?_,fun _ _=>he,?_,?_,h.stamp,?_,fun _=>h.good1 hw,?_,?_⟩,⟨rfl,rfl,rfl,rfl⟩,hw,hw⟩
  all_goals simp only [hw,hp]
  ·simp
  all_goals simp
theorem Pq (h:lC str h0 n G nl nw i ks x){x':eJ}(ho:iK x')(hf:x.pat.fin=0)(hf':x'.pat.fin=0)(hs:x.state<3)(hs':x'.state=x.state)(hp:{ x' with pat:=x.pat }=x):lC str h0 n G nl nw i ks x':=by
 have e:∀(P:eJ→Prop),P { x' with pat:=x.pat }→P x:=fun P g=>hp ▸ g
 obtain⟨p,a1,a2,a3,a4,a5,a6,a7,a8,a9,a10,a11,a12,a13,a14⟩:=x'
 obtain⟨q,b1,b2,b3,b4,b5,b6,b7,b8,b9,b10,b11,b12,b13,b14⟩:=x
 simp only [eJ.mk.injEq,true_and] at hp
 obtain⟨rfl,rfl,rfl,rfl,rfl,rfl,rfl,rfl,rfl,rfl,rfl,rfl,rfl,rfl⟩:=hp
 simp only at hf hf' hs
 have hw:=h.wr
 simp only [hf] at hw
 refine⟨ho,h.me,h.st,h.rdst,h.free,h.cov,h.nd,h.inw,h.nec,.inl hf',?_,?_,fun _ g=>h.lock hf g,fun _ g=>h.now hf g,h.stamp,?_,h.good1,?_,h.good3⟩
 ·simp only [hf'];exact hw
 ·intro _ g;exact h.fin7 hf g
 ·intro g;exact h.le (by simpa [hf,hf'] using g)
 ·intro _ g;exact h.good2 hf g
theorem EJ {l:cw}(hf:x.pat.fin=0):(∃p:oU,p.fin=0∧jn x l={ x with pat:=p })∨∃p:oU,p.fin=0∧jn x l=gw { x with pat:=p } 5 0 l.owner:=by
 have:(x.pat.waits l.owner).1.fin=0:=by unfold oU.waits;split <;> exact hf
 unfold jn
 split
 ·exact .inl ⟨_,this,rfl⟩
 ·exact .inr ⟨_,this,rfl⟩
theorem gF {p:oU}:p.stopped 0=p:=by unfold oU.stopped;simp
abbrev mi (str:Int→Nat)(h0:Hp)(n:Nat)(m:gn)(L:tW)(X:Nat→Hx)(i:Nat)(ks:List au)(x x':eJ)(m':gn):Prop :=
 ∃L',z8 str h0 n i (dz m L X) (dz m' L' (cq X i (gT x')))∧lC str h0 n (dz m' L' (cq X i (gT x'))) m.l.length m.w.length i ks x'∧Tk x x'∧Ql L L' x x'
theorem O4 {l:cw}(hX:X i=gT x)(h:lC str h0 n (dz m L X) m.l.length m.w.length i ks x)(hf:x.pat.fin=0)(hs:x.state=0)(ho:iK (jn x l)):mi str h0 n m L X i ks x (jn x l) m:=by
 rcases EJ (l:=l) hf with ⟨p,hp,e⟩ | ⟨p,hp,e⟩
 ·rw [e] at ho ⊢
  have e2:gT { x with pat:=p }=gT x:=by unfold gT Ez;simp only [hp,hf]
  refine⟨L,?_,?_,⟨rfl,rfl,rfl,rfl⟩,.inl ⟨rfl,rfl,fun _=>rfl⟩⟩
  ·rw [kM hX e2];exact .refl
  ·rw [kM hX e2];exact Pq h ho hf hp (by omega) rfl rfl
 ·rw [e]
  have e2:=M4 (er:=0) (b:=l.owner) hf (.inl hs) (show (5:Int)≠0 by decide) hp
  obtain⟨h1,h2,h3,h4⟩:=KL (er:=0) (b:=l.owner) h hf (.inl hs) (.inr rfl) hp
  refine⟨L,?_,?_,h2,.inl ⟨rfl,by rw [h3,h4],fun g=>by rw [h4] at g;cases g⟩⟩
  ·rw [kM hX e2];exact .refl
  ·rw [kM hX e2];exact h1
theorem DV {l:List Int}{k:Nat}(h:k<l.length):l.getD k 0∈l:=by
 rw [List.getD_eq_getElem?_getD,List.getElem?_eq_getElem h];exact List.getElem_mem h
theorem D2 {s:Int}{a b:Int}{u w:cw}(h:0≤s∧s<m.l.length):∃c,az m ⟨3,s,a,b,u,w⟩=({ m with count:=c },⟨0,m.l.getD s.toNat ah,false,0⟩):=by
 have:jG s m.l.length=true:=by unfold jG;simp [h]
 exact⟨_,by unfold az bx nU;simp [this];rfl⟩
theorem Cb (h:lC str h0 n G nl nw i ks x)(hf:x.pat.fin=0){x':eJ}(ho:iK x')(hs:x.state<3)(hp:{ x' with state:=x.state,lock:=x.lock,now:=x.now }=x)(hs':0≤x'.state∧x'.state<4)(hl:x'.state=1→x'.lock.held=false∧x'.lock.owner=0∧x'.lock.version<4611686018427387904)(hn:x'.state=3→0≤x'.now∧x.stamp≤x'.now∧x'.now<4611686018427387903):lC str h0 n G nl nw i ks x':=by
 obtain⟨p,a1,a2,a3,a4,a5,a6,a7,a8,a9,a10,a11,a12,a13,a14⟩:=x'
 obtain⟨q,b1,b2,b3,b4,b5,b6,b7,b8,b9,b10,b11,b12,b13,b14⟩:=x
 simp only [eJ.mk.injEq,true_and] at hp
 obtain⟨rfl,rfl,rfl,rfl,rfl,rfl,rfl,rfl,rfl,rfl,rfl,rfl⟩:=hp
 simp only at hf hs hs' hl hn
 have hw:=h.wr
 have hw0:a11=false:=by
  cases a11 with
  | false=>rfl
  | true=>have:=hw.1 rfl;simp only at this;omega
 subst hw0
 refine⟨ho,h.me,h.st,h.rdst,h.free,h.cov,h.nd,h.inw,h.nec,.inl hf,?_,fun _ g=>by simp only at g;omega,fun _ g=>hl g,fun _ g=>hn g,h.stamp,fun g=>by simp only at g;simp at g;omega,h.good1,fun _ g=>by simp only at g;omega,fun g=>by cases g⟩
 simp only;simp;omega
theorem OX (hi:fJ str h0 n (dz m L X))(hT:m.n<4611686018427387904)(hX:X i=gT x)(h:lC str h0 n (dz m L X) m.l.length m.w.length i ks x)(hf:x.pat.fin=0)(hs:x.state=0) :
  (az m (bi x).1).2.err=0∧mi str h0 n m L X i ks x (cy x (az m (bi x).1).2) (az m (bi x).1).1:=by
 have ho:=iY h.ok (az m (bi x).1).2
 have hh:=((h.ok.here hf).1 (.inl hs)).1
 have hst:=h.st _ (DV hh)
 have en:(bi x).1=⟨3,x.stripes.getD x.was.length 0,0,0,ah,ah⟩:=by unfold bi;rw [if_pos hf,if_pos hs]
 rw [en] at ho ⊢
 obtain⟨c,e⟩:=D2 (a:=0) (b:=0) (u:=ah) (w:=ah) hst
 rw [e] at ho ⊢
 have et:cy x ⟨0,m.l.getD (x.stripes.getD x.was.length 0).toNat ah,false,0⟩=if (m.l.getD (x.stripes.getD x.was.length 0).toNat ah).held=true then jn x (m.l.getD (x.stripes.getD x.was.length 0).toNat ah) else { x with lock:=m.l.getD (x.stripes.getD x.was.length 0).toNat ah,state:=1 }:=by
  unfold cy pZ
  rw [gF,if_pos hf,if_pos (.inl hs),if_pos hs]
 rw [et] at ho ⊢
 refine⟨rfl,?_⟩
 split at ho
 ·rename_i g
  rw [if_pos g]
  exact O4 (m:={ m with count:=c }) hX h hf hs ho
 ·rename_i g
  rw [if_neg g]
  have g:(m.l.getD (x.stripes.getD x.was.length 0).toNat ah).held=false:=by simpa using g
  have e2:gT { x with lock:=m.l.getD (x.stripes.getD x.was.length 0).toNat ah,state:=1 }=gT x:=by unfold gT Ez;simp [hf,hs]
  refine⟨L,?_,?_,⟨rfl,rfl,rfl,rfl⟩,.inl ⟨rfl,rfl,fun _=>rfl⟩⟩
  ·have:=kM (m:={ m with count:=c }) (L:=L) hX e2
   rw [this];exact .refl
  ·have:=kM (m:={ m with count:=c }) (L:=L) hX e2
   rw [this]
   exact Cb h hf ho (by omega) rfl ⟨by simp,by simp⟩ (fun _=>⟨g,hi.free _ g,by have:=(hi.v (x.stripes.getD x.was.length 0).toNat).2;show (m.l.getD _ ah).version<_;have h3:(dz m L X).T=m.n:=rfl;have h4:(dz m L X).lk (x.stripes.getD x.was.length 0).toNat=m.l.getD (x.stripes.getD x.was.length 0).toNat ah:=rfl;rw [h4] at this;omega⟩) (fun g=>by simp at g)
theorem z8.trans {G1 G2:Gs}(h:z8 str h0 n me G G1)(h':z8 str h0 n me G1 G2):z8 str h0 n me G G2:=by
 induction h' with
 | refl=>exact h
 | step _ a b c d ih=>exact .step ih a b c d
theorem z8.one {G1:Gs}(hi:fJ str h0 n G)(h:fJ str h0 n G1∧Lt str n G G1 me)(hw:Q0 str n G G1 me):z8 str h0 n me G G1:=.step .refl hi h.2 hw h.1
theorem KG {y:cw}:∀{l:List Int}{w:List cw},w.length<l.length→l.zip (w++[y])=l.zip w++[(l.getD w.length 0,y)]
 | [],w,h=>by simp at h
 | a::l,[],h=>by simp
 | a::l,b::w,h=>by
  have:=KG (y:=y) (l:=l) (w:=w) (by simpa using h)
  simp only [List.cons_append,List.zip_cons_cons,this,List.length_cons,List.getD_cons_succ]
theorem Qg {s:Int}{k:Nat}(h:0≤s∧s<k):jG s k=true:=by unfold jG;simp;omega
theorem Cg {l:cw}(h:l.version<4611686018427387904)(h1:l.held=true→0≤l.owner∧l.owner<4)(h0:l.held=false→l.owner=0):zB l=true:=by
 unfold zB
 cases g:l.held with
 | true=>have:=h1 g;simp;omega
 | false=>have:=h0 g;simp;omega
theorem LM {ls:List cw}{s:Int}{l:cw}(h:0≤s∧s<ls.length)(hl:zB l=true):kR ls s l=0:=by
 unfold kR;rw [Qg h,hl];rfl
theorem OH (hi:fJ str h0 n (dz m L X))(hn:i<n)(hn4:n≤4)(hT:m.n<4611686018427387904)(hX:X i=gT x)(h:lC str h0 n (dz m L X) m.l.length m.w.length i ks x)(hf:x.pat.fin=0)(hs:x.state=1) :
  (az m (bi x).1).2.err=0∧mi str h0 n m L X i ks x (cy x (az m (bi x).1).2) (az m (bi x).1).1:=by
 have ho:=iY h.ok (az m (bi x).1).2
 have hh:=((h.ok.here hf).1 (.inr hs))
 have hst:=h.st _ (DV hh.1)
 obtain⟨l1,l2,l3⟩:=h.lock hf hs
 have hme:=h.me
 have en:(bi x).1=⟨4,x.stripes.getD x.was.length 0,0,0,x.lock,⟨x.lock.version,true,x.me⟩⟩:=by unfold bi;rw [if_pos hf,if_neg (by omega),if_pos hs]
 rw [en] at ho ⊢
 have hmay:kR m.l (x.stripes.getD x.was.length 0) ⟨x.lock.version,true,x.me⟩=0:=LM hst (Cg l3 (fun _=>by simp only;omega) (fun g=>by cases g))
 have hw0:x.writing=false:=by
  cases g:x.writing with
  | false=>rfl
  | true=>have:=h.wr.1 g;omega
 by_cases hc:m.l.getD (x.stripes.getD x.was.length 0).toNat ah=x.lock
 ·have e:∃c,az m ⟨4,x.stripes.getD x.was.length 0,0,0,x.lock,⟨x.lock.version,true,x.me⟩⟩=({ m with count:=c,l:=m.l.set (x.stripes.getD x.was.length 0).toNat ⟨x.lock.version,true,x.me⟩ },⟨0,ah,true,0⟩) :=
   ⟨_,by unfold az bx ma;simp only [hmay,hc];rfl⟩
  obtain⟨c,e⟩:=e
  rw [e] at ho ⊢
  have et:cy x ⟨0,ah,true,0⟩=iN { x with was:=x.was++[x.lock] }:=by
   unfold cy pZ
   rw [gF,if_pos hf,if_pos (.inr hs),if_neg (by omega)];rfl
  rw [et] at ho ⊢
  have hlk:x.lock=⟨x.lock.version,false,0⟩:=by cases hx:x.lock;rw [hx] at l1 l2;simp_all
  have hxx:X i=⟨(x.stripes.zip x.was).map fun p=>(p.1.toNat,p.2.version),none,false,[],0⟩:=by rw [hX];unfold gT Ez;simp [hf,hs]
  have hG:=Pk (me:=i) (s:=(x.stripes.getD x.was.length 0).toNat) (V:=x.lock.version) hi hn (by show m.l.getD _ ah=_;rw [hc];exact hlk) (by show (X i).up=none;rw [hxx]) (by show (X i).wr=false;rw [hxx])
  have hGt:=Q3 (str:=str) (n:=n) (G:=dz m L X) (me:=i) (s:=(x.stripes.getD x.was.length 0).toNat) (V:=x.lock.version) (by show (X i).wr=false;rw [hxx])
  have hst2:(iN { x with was:=x.was++[x.lock] }).state=0∨(iN { x with was:=x.was++[x.lock] }).state=2:=by unfold iN;simp only;split <;> simp
  have hxx':gT (iN { x with was:=x.was++[x.lock] })=⟨(x.stripes.zip x.was).map (fun p=>(p.1.toNat,p.2.version))++[((x.stripes.getD x.was.length 0).toNat,x.lock.version)],none,false,[],0⟩:=by
   unfold gT Ez
   rw [if_pos (by exact hf)]
   rcases hst2 with g | g <;> rw [g] <;> simp [iN,KG hh.1]
  have eG:dz { m with count:=c,l:=m.l.set (x.stripes.getD x.was.length 0).toNat ⟨x.lock.version,true,x.me⟩ } L (cq X i (gT (iN { x with was:=x.was++[x.lock] })))=uB (dz m L X) i (x.stripes.getD x.was.length 0).toNat x.lock.version:=by
   refine Gs.ext' (fun s=>?_) (fun _=>rfl) rfl rfl (fun k=>?_)
   ·show (m.l.set _ _).getD s ah=_
    rw [wK (by omega),hme];rfl
   ·show cq X i _ k=cq X i _ k
    rw [hxx',show (dz m L X).X i=X i from rfl,hxx]
  refine⟨rfl,L,?_,?_,⟨rfl,rfl,rfl,rfl⟩,.inl ⟨rfl,rfl,fun _=>rfl⟩⟩
  ·rw [eG];exact .one hi hG hGt
  ·rw [eG]
   refine⟨ho,h.me,h.st,h.rdst,?_,h.cov,h.nd,h.inw,h.nec,.inl hf,?_,?_,?_,?_,h.stamp,?_,?_,?_,?_⟩
   ·intro l hl
    have hl:l∈x.was++[x.lock]:=hl
    rcases List.mem_append.1 hl with hl | hl
    ·exact h.free l hl
    ·rw [List.mem_singleton.1 hl];exact⟨l1,l2⟩
   ·show x.writing=true↔(x.pat.fin=2∨(x.pat.fin=0∧_))
    exact⟨fun g=>absurd (hw0.symm.trans g) (by decide),fun g=>by omega⟩
   ·intro _ g;omega
   ·intro _ g;omega
   ·intro _ g;omega
   ·intro g
    have g:x.writing=true∨(x.pat.fin=0∧(iN { x with was:=x.was++[x.lock] }).state=4):=g
    rcases g with g | ⟨_,g⟩
    ·exact absurd (hw0.symm.trans g) (by decide)
    ·omega
   ·intro _ z hz
    exact(h.good1 hw0 z hz).own (Ky (me:=i) (by show m.l.getD _ ah=_;rw [hc];exact hlk) _) (fun k hk=>fi hk) rfl
   ·intro _ g;omega
   ·intro g
    have g:x.writing=true:=g
    rw [hw0] at g;cases g
 ·have e:∃c,az m ⟨4,x.stripes.getD x.was.length 0,0,0,x.lock,⟨x.lock.version,true,x.me⟩⟩=({ m with count:=c },⟨0,ah,false,0⟩) :=
   ⟨_,by unfold az bx ma;simp only [hmay,hc];rfl⟩
  obtain⟨c,e⟩:=e
  rw [e] at ho ⊢
  have et:cy x ⟨0,ah,false,0⟩={ x with state:=0 }:=by
   unfold cy pZ
   rw [gF,if_pos hf,if_pos (.inr hs),if_neg (by omega)];rfl
  rw [et] at ho ⊢
  have e2:gT { x with state:=0 }=gT x:=by unfold gT Ez;simp [hf,hs]
  have:=kM (m:={ m with count:=c }) (L:=L) hX e2
  exact⟨rfl,L,by rw [this];exact .refl,by rw [this];exact Cb h hf ho (by omega) rfl ⟨by simp,by simp⟩ (fun g=>by simp at g) (fun g=>by simp at g),⟨rfl,rfl,rfl,rfl⟩,.inl ⟨rfl,rfl,fun _=>rfl⟩⟩
theorem Ov (hi:fJ str h0 n (dz m L X))(hX:X i=gT x)(h:lC str h0 n (dz m L X) m.l.length m.w.length i ks x)(hf:x.pat.fin=0)(hs:x.state=2) :
  (az m (bi x).1).2.err=0∧mi str h0 n m L X i ks x (cy x (az m (bi x).1).2) (az m (bi x).1).1:=by
 have ho:=iY h.ok (az m (bi x).1).2
 have en:(bi x).1=⟨6,0,0,0,ah,ah⟩:=by unfold bi;rw [if_pos hf,if_neg (by omega),if_neg (by omega),if_pos hs]
 rw [en] at ho ⊢
 have e:∃c,az m ⟨6,0,0,0,ah,ah⟩=({ m with count:=c },⟨m.n,ah,false,0⟩):=⟨_,rfl⟩
 obtain⟨c,e⟩:=e
 rw [e] at ho ⊢
 have et:cy x ⟨m.n,ah,false,0⟩=if 4611686018427387903≤m.n then gw x 4 7 (-1) else { x with now:=m.n,state:=3 }:=by
  unfold cy ml
  rw [gF,if_pos hf,if_neg (by omega),if_pos (.inl hs),if_pos hs]
 rw [et] at ho ⊢
 refine⟨rfl,?_⟩
 split at ho
 ·rename_i g
  rw [if_pos g]
  have e2:=M4 (x:=x) (er:=7) (b:=-1) hf (.inr (.inr (.inl hs))) (show (4:Int)≠0 by decide) hf
  obtain⟨h1,h2,h3,h4⟩:=KL (er:=7) (b:=-1) h hf (.inr (.inr (.inl hs))) (.inl rfl) hf
  have:=kM (m:={ m with count:=c }) (L:=L) hX e2
  exact⟨L,by rw [this];exact .refl,by rw [this];exact h1,h2,.inl ⟨rfl,by rw [h3,h4],fun g=>by rw [h4] at g;cases g⟩⟩
 ·rename_i g
  rw [if_neg g]
  have e2:gT { x with now:=m.n,state:=3 }=gT x:=by unfold gT Ez;simp [hf,hs]
  have:=kM (m:={ m with count:=c }) (L:=L) hX e2
  have hw0:x.writing=false:=by
   cases g:x.writing with
   | false=>rfl
   | true=>have:=h.wr.1 g;omega
  exact⟨L,by rw [this];exact .refl,by rw [this];exact Cb h hf ho (by omega) rfl ⟨by simp,by simp⟩ (fun g=>by simp at g) (fun _=>⟨hi.t0,h.stamp.2,by show m.n<_;omega⟩),⟨rfl,rfl,rfl,rfl⟩,.inl ⟨rfl,rfl,fun g=>by rw [hw0] at g;cases g⟩⟩
structure AO (str:Int→Nat)(h0:Hp)(n:Nat)(G:Gs)(nl nw i:Nat)(ks:List au)(x:eJ):Prop where
 len:gR x
 full:x.was.length=x.stripes.length
 me:x.me=i
 st:∀s∈x.stripes,0≤s∧s<nl
 rdst:∀z∈x.seen,0≤z.stripe∧z.stripe<nl
 free:∀l∈x.was,l.held=false∧l.owner=0
 cov:∀y∈x.cells,((str y.place:Nat):Int)∈x.stripes
 nd:(x.cells.map (·.place)).Nodup
 inw:∀y∈x.cells,1≤y.place∧y.place<nw
 nec:x.cells≠[]
 fin:x.pat.fin=0
 st4:x.state=4
 pos:x.pos≤x.seen.length
 wr:x.writing=false
 stamp:0≤x.stamp∧x.stamp≤G.T
 le:x.stamp≤x.now∧x.now+1≤G.T
 good1:∀z∈x.seen,iC str h0 n G i x.stamp ks z.stripe.toNat z.version
 good2:∀j z,j<x.pos→x.seen[j]? = some z→iC str h0 n G i x.now ks z.stripe.toNat z.version
abbrev U4 (x:eJ):Hx:=⟨(x.stripes.zip x.was).map fun p=>(p.1.toNat,p.2.version),some x.now,false,[],0⟩
theorem AO.hx (h:AO str h0 n G nl nw i ks x):gT x=U4 x:=by
 unfold gT Ez;simp [h.fin,h.st4]
theorem AO.toI (h:AO str h0 n G nl nw i ks x)(ho:iK x):lC str h0 n G nl nw i ks x :=
 ⟨ho,h.me,h.st,h.rdst,h.free,h.cov,h.nd,h.inw,h.nec,.inl h.fin,by rw [h.wr,h.fin,h.st4];simp,fun _ g=>(by rw [h.st4] at g;cases g),fun _ g=>(by rw [h.st4] at g;cases g),fun _ g=>(by rw [h.st4] at g;cases g),h.stamp,fun _=>h.le,fun _=>h.good1,fun _ _=>h.good2,fun g=>(by rw [h.wr] at g;cases g)⟩
theorem AO.ne (h:AO str h0 n G nl nw i ks x):x.stripes≠[]:=by
 cases hc:x.cells with
 | nil=>exact absurd hc h.nec
 | cons y l=>have:=h.cov y (by rw [hc];simp);intro e;rw [e] at this;cases this
theorem Qf (hi:fJ str h0 n (dz m L X))(hn:i<n)(hX:X i=gT x)(h:AO str h0 n (dz m L X) m.l.length m.w.length i ks x){p:oU}(hp:p.fin=0){e b:Int}(he:e=4∨e=5):mi str h0 n m L X i ks x (gw { x with pat:=p } e 0 b) m:=by
 have hs:x.was.length≠0:=by rw [h.full];intro g;exact h.ne (List.eq_nil_of_length_eq_zero g)
 have hw:(X i).wr=false:=by rw [hX,h.hx]
 have e2:gw { x with pat:=p } e 0 b={ x with pat:=p,fin:=e,err:=0,by_:=b,pos:=0,state:=7 }:=by
  unfold gw iu
  rw [if_neg (fun g=>hs g.symm)]
 rw [e2]
 have ho:iK { x with pat:=p,fin:=e,err:=0,by_:=b,pos:=0,state:=7 }:=by
  have:=ng (x:={ x with pat:=p }) (h.len.eqs rfl rfl rfl rfl) (e:=e) (er:=0) (b:=b) (by omega)
  rw [e2] at this;exact this
 have eG:dz m L (cq X i (gT { x with pat:=p,fin:=e,err:=0,by_:=b,pos:=0,state:=7 }))=Bq (dz m L X) i:=by
  refine Gs.ext' (fun _=>rfl) (fun _=>rfl) rfl rfl (fun k=>?_)
  show cq X i _ k=cq X i _ k
  rw [show (dz m L X).X i=X i from rfl,hX,h.hx]
  congr 1
  unfold gT Ez;simp [hp]
 refine⟨L,?_,?_,⟨rfl,rfl,rfl,rfl⟩,.inl ⟨rfl,rfl,fun _=>rfl⟩⟩
 ·rw [eG];exact .one hi (Pu hi hn hw) (RQ hw)
 ·rw [eG]
  refine⟨ho,h.me,h.st,h.rdst,h.free,h.cov,h.nd,h.inw,h.nec,.inl hp,?_,fun _ _=>he,fun _ g=>(by cases g),fun _ g=>(by cases g),h.stamp,fun g=>?_,fun _ z hz=>iC.own (G:=dz m L X) rfl (fun k hk=>fi hk) rfl (h.good1 z hz),fun _ g=>(by cases g),fun g=>?_⟩
  ·show x.writing=true↔(p.fin=2∨_)
   rw [h.wr,hp];simp
  ·have g:x.writing=true∨(_∧(7:Int)=4):=g
   rw [h.wr] at g;simp at g
  ·have g:x.writing=true:=g
   rw [h.wr] at g;cases g
theorem Ql.eqs {L':tW}{x y z:eJ}(h:Ql L L' y z)(h1:y.writing=x.writing)(h2:y.now=x.now)(h3:y.cells=x.cells):Ql L L' x z:=by
 unfold Ql at *
 rw [h1,h2,h3] at h;exact h
theorem ud (hn:i<n):∀{k:Nat}{x:eJ},fJ str h0 n (dz m L X)→X i=gT x→AO str h0 n (dz m L X) m.l.length m.w.length i ks x→x.seen.length=x.pos+k→mi str h0 n m L X i ks x (kP k x) m
 | 0,x,hi,hX,h,hk=>by
  have ho:iK (kP 0 x):=xQ h.len h.st4 h.full hk
  have hne:(0:Nat)≠x.cells.length:=fun g=>h.nec (List.eq_nil_of_length_eq_zero g.symm)
  have e2:kP 0 x={ x with writing:=true,pos:=0,state:=5 }:=by
   unfold kP o5 jw
   rw [if_neg hne]
  rw [e2] at ho ⊢
  have hw:(X i).wr=false:=by rw [hX,h.hx]
  have hu:(X i).up=some x.now:=by rw [hX,h.hx]
  have hc:∀z∈x.cells,∃V,(str z.place,V)∈(X i).hd:=fun z hz=>by
   rw [hX,h.hx]
   have:=Qy h.len h.full (h.cov z hz)
   simpa using this
  have eG:dz m (vE (x.now+1) x.cells L) (cq X i (gT { x with writing:=true,pos:=0,state:=5 }))=gI (dz m L X) i x.now x.cells:=by
   refine Gs.ext' (fun _=>rfl) (fun _=>rfl) rfl rfl (fun k=>?_)
   show cq X i _ k=cq X i _ k
   rw [show (dz m L X).X i=X i from rfl,hX,h.hx]
   congr 1
   unfold gT Ez;simp [h.fin]
  have hci:=FO hi hn hw hu h.nd hc
  refine⟨vE (x.now+1) x.cells L,?_,?_,⟨rfl,rfl,rfl,rfl⟩,.inr ⟨rfl,h.wr,rfl,fun y hy=>hi.upL i hn hw x.now hu y hy⟩⟩
  ·rw [eG];exact .one hi hci NU
  ·rw [eG]
   refine⟨ho,h.me,h.st,h.rdst,h.free,h.cov,h.nd,h.inw,h.nec,.inl h.fin,?_,fun _ g=>(by cases g),fun _ g=>(by cases g),fun _ g=>(by cases g),h.stamp,fun _=>h.le,fun g=>(by cases g),fun _ g=>(by cases g),fun _ z hz=>?_⟩
   ·show true=true↔(x.pat.fin=2∨(x.pat.fin=0∧_))
    rw [h.fin];simp
   ·obtain⟨j,hj,e⟩:=List.getElem_of_mem hz
    exact(h.good2 j z (by have hj:j<x.seen.length:=hj;omega) (by rw [List.getElem?_eq_getElem hj,e])).commit hi hn hw hu hc h.nd
 | k+1,x,hi,hX,h,hk=>by
  have ho:iK (kP (k+1) x):=xQ h.len h.st4 h.full hk
  have hlt:x.pos<x.seen.length:=by omega
  have hz:x.seen.getD x.pos ⟨0,0⟩=x.seen[x.pos]:=by rw [List.getD_eq_getElem?_getD,List.getElem?_eq_getElem hlt];rfl
  revert ho
  unfold kP
  rw [hz]
  cases hv:R0 x x.seen[x.pos].stripe with
  | none =>
   intro ho
   have e2:=kM (m:=m) (L:=L) (x':=x) hX rfl
   exact⟨L,by rw [e2];exact .refl,by rw [e2];exact h.toI ho,⟨rfl,rfl,rfl,rfl⟩,.inl ⟨rfl,rfl,fun _=>rfl⟩⟩
  | some v =>
   intro ho
   simp only at ho ⊢
   split
   ·rename_i g
    have hmem:x.seen[x.pos]∈x.seen:=List.getElem_mem hlt
    have h':AO str h0 n (dz m L X) m.l.length m.w.length i ks { x with pos:=x.pos+1 }:=by
     refine⟨h.len.eqs rfl rfl rfl rfl,h.full,h.me,h.st,h.rdst,h.free,h.cov,h.nd,h.inw,h.nec,h.fin,h.st4,hlt,h.wr,h.stamp,h.le,h.good1,fun j z hj hjz=>?_⟩
     have hj:j<x.pos+1:=hj
     by_cases c:j<x.pos
     ·exact h.good2 j z c hjz
     ·have:j=x.pos:=by omega
      subst this
      have hjz:x.seen[x.pos]? = some z:=hjz
      rw [List.getElem?_eq_getElem hlt] at hjz
      cases hjz
      have hg:=h.good1 _ hmem
      have hown:(dz m L X).lk x.seen[x.pos].stripe.toNat=⟨x.seen[x.pos].version,true,i⟩:=by
       unfold R0 at hv
       cases hix:uc x.stripes x.seen[x.pos].stripe with
       | none=>rw [hix] at hv;cases hv
       | some q =>
        rw [hix] at hv
        have hv:some (x.was.getD q ah).version=some v:=hv
        have hq:=xJ hix
        have hql:=(List.getElem?_eq_some_iff.1 hq).1
        have h1:=PI h.len (k:=q) (by rw [h.full];exact hql)
        have h2:=List.mem_of_getElem? h1
        rw [List.getD_eq_getElem?_getD,hq] at h2
        have hin:(x.seen[x.pos].stripe.toNat,x.seen[x.pos].version)∈(X i).hd:=by
         rw [hX,h.hx]
         simp only [Option.some.injEq] at hv
         rw [hv,g] at h2
         exact h2
        exact hi.own i hn _ _ hin
      exact hg.now hi (by rw [hown]) (.inr ⟨by rw [hown],by show (X i).wr=false;rw [hX,h.hx]⟩) (by have:=hg.v0;have:=h.le.1;show x.seen[x.pos].version≤x.now;omega) (by show x.now≤_;have:=h.le.2;omega)
    have hX':X i=gT { x with pos:=x.pos+1 }:=by rw [hX,h.hx,h'.hx]
    obtain⟨L',r1,r2,r3,r4⟩:=ud hn hi hX' h' (k:=k) (by show x.seen.length=x.pos+1+k;omega)
    exact⟨L',r1,r2,⟨r3.seen,r3.cells,r3.stamp,r3.me⟩,r4.eqs rfl rfl rfl⟩
   ·exact Qf hi hn hX h h.fin (.inr rfl)
end
section
variable {str:Int→Nat}{h0:Hp}{n me i nl nw:Nat}{G G':Gs}{τ:Int}{ks:List au}{s:Nat}{v:Int}{m:gn}{L:tW}{X:Nat→Hx}{x:eJ}
theorem lC.w0 (h:lC str h0 n G nl nw i ks x)(hf:x.pat.fin=0)(hs:x.state≠5∧x.state≠6):x.writing=false:=by
 cases g:x.writing with
 | false=>rfl
 | true=>have:=h.wr.1 g;omega
theorem lC.toP (h:lC str h0 n G nl nw i ks x)(hf:x.pat.fin=0)(hs:x.state=4):AO str h0 n G nl nw i ks x :=
 have hh:=(h.ok.here hf).2.2.1 hs
 ⟨h.ok.len,hh.1,h.me,h.st,h.rdst,h.free,h.cov,h.nd,h.inw,h.nec,hf,hs,Nat.le_of_lt hh.2,h.w0 hf (by omega),h.stamp,h.le (.inr ⟨hf,hs⟩),h.good1 (h.w0 hf (by omega)),h.good2 hf hs⟩
theorem FM (hi:fJ str h0 n (dz m L X))(hn:i<n)(hX:X i=gT x)(h:lC str h0 n (dz m L X) m.l.length m.w.length i ks x)(hf:x.pat.fin=0)(hs:x.state=3)(hT:m.n=x.now){p:Nat}(hp:p≤x.seen.length)(hg:∀j z,j<p→x.seen[j]? = some z→iC str h0 n (dz m L X) i x.now ks z.stripe.toNat z.version){m':gn}(hm:m'={ m with n:=x.now+1,count:=m'.count }) :
  fJ str h0 n (dz m' L (cq X i (gT { x with state:=4,pos:=p })))∧z8 str h0 n i (dz m L X) (dz m' L (cq X i (gT { x with state:=4,pos:=p })))∧AO str h0 n (dz m' L (cq X i (gT { x with state:=4,pos:=p }))) m'.l.length m'.w.length i ks { x with state:=4,pos:=p }:=by
 have hw0:=h.w0 hf (by omega)
 have hxx:X i=⟨(x.stripes.zip x.was).map fun p=>(p.1.toNat,p.2.version),none,false,[],0⟩:=by rw [hX];unfold gT Ez;simp [hf,hs]
 have hr:=NG (me:=i) hi hn (by show (X i).wr=false;rw [hxx])
 have eG:dz m' L (cq X i (gT { x with state:=4,pos:=p }))=lX (dz m L X) i:=by
  rw [hm]
  refine Gs.ext' (fun _=>rfl) (fun _=>rfl) (by show x.now+1=m.n+1;rw [hT]) rfl (fun k=>?_)
  show cq X i _ k=cq X i _ k
  rw [show (dz m L X).X i=X i from rfl,hxx]
  congr 1
  unfold gT Ez;simp [hf];exact hT.symm
 have hh:=(h.ok.here hf).2.1 (.inr hs)
 have hown:∀{t:Int} {s:Nat} {v:Int},iC str h0 n (dz m L X) i t ks s v→iC str h0 n (lX (dz m L X) i) i t ks s v:=fun g=>iC.own (G:=dz m L X) (G':=lX (dz m L X) i) rfl (fun k hk=>fi hk) rfl g
 rw [eG]
 refine⟨hr.1,.one hi hr PC,⟨h.ok.len.eqs rfl rfl rfl rfl,hh.1,h.me,?_,?_,h.free,h.cov,h.nd,?_,h.nec,hf,rfl,hp,hw0,?_,?_,fun z hz=>hown (h.good1 hw0 z hz),fun j z hj hz=>hown (hg j z hj hz)⟩⟩
 ·rw [hm];exact h.st
 ·rw [hm];exact h.rdst
 ·rw [hm];exact h.inw
 ·have:=h.stamp;exact⟨this.1,by show x.stamp≤m.n+1;have:=this.2;have e:(dz m L X).T=m.n:=rfl;omega⟩
 ·have:=(h.now hf hs).2.1
  exact⟨this,by show x.now+1≤m.n+1;omega⟩
theorem mi.pre {m1:gn}{X1:Nat→Hx}{x1 x':eJ}{a:Hx}(hX1:X1=cq X i a)(hg:z8 str h0 n i (dz m L X) (dz m1 L X1))(hfx:Tk x x1)(hl:x1.writing=x.writing∧(x1.writing=true→x1.now=x.now)∧x1.cells=x.cells)(hml:m1.l.length=m.l.length∧m1.w.length=m.w.length)(h:mi str h0 n m1 L X1 i ks x1 x' m1):mi str h0 n m L X i ks x x' m1:=by
 obtain⟨L',r1,r2,r3,r4⟩:=h
 have e:dz m1 L' (cq X1 i (gT x'))=dz m1 L' (cq X i (gT x')):=by
  refine Gs.ext' (fun _=>rfl) (fun _=>rfl) rfl rfl (fun k=>?_)
  show cq X1 i _ k=cq X i _ k
  rw [hX1,Kz]
 rw [e] at r1 r2
 rw [hml.1,hml.2] at r2
 refine⟨L',hg.trans r1,r2,⟨r3.seen.trans hfx.seen,r3.cells.trans hfx.cells,r3.stamp.trans hfx.stamp,r3.me.trans hfx.me⟩,?_⟩
 rcases r4 with ⟨a1,a2,a3⟩ | ⟨a1,a2,a3,a4⟩
 ·exact .inl ⟨a1,a2.trans hl.1,fun g=>(a3 (by rw [hl.1];exact g)).trans (hl.2.1 (by rw [hl.1];exact g))⟩
 ·exact .inr ⟨by rw [a1,hl.2.2],by rw [←hl.1];exact a2,a3,a4⟩
theorem O2 (hi:fJ str h0 n (dz m L X))(hn:i<n)(hX:X i=gT x)(h:lC str h0 n (dz m L X) m.l.length m.w.length i ks x)(hf:x.pat.fin=0)(hs:x.state=3) :
  (az m (bi x).1).2.err=0∧mi str h0 n m L X i ks x (cy x (az m (bi x).1).2) (az m (bi x).1).1:=by
 have ho:=iY h.ok (az m (bi x).1).2
 obtain⟨n0,n1,n2⟩:=h.now hf hs
 have en:(bi x).1=⟨7,0,x.now,x.now+1,ah,ah⟩:=by
  unfold bi;rw [if_pos hf,if_neg (by omega),if_neg (by omega),if_neg (by omega),if_pos hs,PM (by omega) (by omega)]
 rw [en] at ho ⊢
 have hw0:=h.w0 hf (by omega)
 by_cases hc:m.n=x.now
 ·have e:∃c,az m ⟨7,0,x.now,x.now+1,ah,ah⟩=({ m with n:=x.now+1,count:=c },⟨0,ah,true,0⟩) :=
   ⟨_,by unfold az bx;simp [hc,show ¬(x.now+1≤x.now) by omega,show ¬(4611686018427387904≤x.now+1) by omega];rfl⟩
  obtain⟨c,e⟩:=e
  rw [e] at ho ⊢
  refine⟨rfl,?_⟩
  have et:cy x ⟨0,ah,true,0⟩=if x.now=x.stamp then o5 x else oc x:=by
   unfold cy ml
   rw [gF,if_pos hf,if_neg (by omega),if_pos (.inr hs),if_neg (by omega)];rfl
  rw [et]
  split
  ·rename_i g
   obtain⟨r1,r2,r3⟩:=FM (m':={ m with n:=x.now+1,count:=c }) hi hn hX h hf hs hc (p:=x.seen.length) (Nat.le_refl _) (fun j z _ hz=>by rw [g];exact h.good1 hw0 z (List.mem_of_getElem? hz)) rfl
   have hp:=ud (k:=0) hn r1 fN r3 rfl
   exact mi.pre (m1:={ m with n:=x.now+1,count:=c }) (x1:={ x with state:=4,pos:=x.seen.length }) rfl r2 ⟨rfl,rfl,rfl,rfl⟩ ⟨rfl,fun _=>rfl,rfl⟩ ⟨rfl,rfl⟩ hp
  ·obtain⟨r1,r2,r3⟩:=FM (m':={ m with n:=x.now+1,count:=c }) hi hn hX h hf hs hc (p:=x.pos) (by have:=(h.ok.here hf).2.1 (.inr hs);omega) (fun j z hj _=>by have:=(h.ok.here hf).2.1 (.inr hs);omega) rfl
   have hp:=ud (k:=x.seen.length-x.pos) hn r1 fN r3 (by have:=(h.ok.here hf).2.1 (.inr hs);show x.seen.length=x.pos+_;omega)
   exact mi.pre (m1:={ m with n:=x.now+1,count:=c }) (x1:={ x with state:=4,pos:=x.pos }) rfl r2 ⟨rfl,rfl,rfl,rfl⟩ ⟨rfl,fun _=>rfl,rfl⟩ ⟨rfl,rfl⟩ hp
 ·have e:∃c,az m ⟨7,0,x.now,x.now+1,ah,ah⟩=({ m with count:=c },⟨0,ah,false,0⟩) :=
   ⟨_,by unfold az bx;simp [hc,show ¬(x.now+1≤x.now) by omega,show ¬(4611686018427387904≤x.now+1) by omega];rfl⟩
  obtain⟨c,e⟩:=e
  rw [e] at ho ⊢
  have et:cy x ⟨0,ah,false,0⟩={ x with state:=2 }:=by
   unfold cy ml
   rw [gF,if_pos hf,if_neg (by omega),if_pos (.inr hs),if_neg (by omega)];rfl
  rw [et] at ho ⊢
  have e2:gT { x with state:=2 }=gT x:=by unfold gT Ez;simp [hf,hs]
  have:=kM (m:={ m with count:=c }) (L:=L) hX e2
  refine⟨rfl,L,by rw [this];exact .refl,?_,⟨rfl,rfl,rfl,rfl⟩,.inl ⟨rfl,rfl,fun _=>rfl⟩⟩
  rw [this]
  refine⟨ho,h.me,h.st,h.rdst,h.free,h.cov,h.nd,h.inw,h.nec,.inl hf,?_,fun _ g=>by simp only at g;omega,fun _ g=>by simp only at g;omega,fun _ g=>by simp only at g;omega,h.stamp,fun g=>?_,h.good1,fun _ g=>by simp only at g;omega,fun g=>?_⟩
  ·show x.writing=true↔_
   rw [hw0,hf];simp
  ·have g:x.writing=true∨_:=g
   rw [hw0] at g;simp at g
  ·have g:x.writing=true:=g
   rw [hw0] at g;cases g
theorem OP (hi:fJ str h0 n (dz m L X))(hn:i<n)(hX:X i=gT x)(h:lC str h0 n (dz m L X) m.l.length m.w.length i ks x)(hf:x.pat.fin=0)(hs:x.state=4) :
  (az m (bi x).1).2.err=0∧mi str h0 n m L X i ks x (cy x (az m (bi x).1).2) (az m (bi x).1).1:=by
 have ho:=iY h.ok (az m (bi x).1).2
 have hh:=(h.ok.here hf).2.2.1 hs
 have hz:x.seen.getD x.pos ⟨0,0⟩=x.seen[x.pos]:=by rw [List.getD_eq_getElem?_getD,List.getElem?_eq_getElem hh.2];rfl
 have hmem:x.seen[x.pos]∈x.seen:=List.getElem_mem hh.2
 have hP:=h.toP hf hs
 have en:(bi x).1=⟨3,x.seen[x.pos].stripe,0,0,ah,ah⟩:=by
  unfold bi;rw [if_pos hf,if_neg (by omega),if_neg (by omega),if_neg (by omega),if_neg (by omega),if_pos hs,hz]
 rw [en] at ho ⊢
 obtain⟨c,e⟩:=D2 (a:=0) (b:=0) (u:=ah) (w:=ah) (h.rdst _ hmem)
 rw [e] at ho ⊢
 have et:∀l,cy x ⟨0,l,false,0⟩=ll x l:=fun l=>by
  unfold cy
  rw [gF,if_pos hf,if_neg (by omega),if_neg (by omega),if_pos hs]
 rw [et] at ho ⊢
 refine⟨rfl,?_⟩
 have hP':AO str h0 n (dz { m with count:=c } L X) m.l.length m.w.length i ks x:=hP
 unfold ll at ho ⊢
 split at ho
 ·rename_i g
  rw [if_pos g]
  rcases EJ (l:=m.l.getD x.seen[x.pos].stripe.toNat ah) hf with ⟨p,hp,e⟩ | ⟨p,hp,e⟩
  ·rw [e] at ho ⊢
   have e2:gT { x with pat:=p }=gT x:=by unfold gT Ez;simp only [hp,hf]
   have e3:=kM (m:={ m with count:=c }) (L:=L) hX e2
   refine⟨L,by rw [e3];exact .refl,?_,⟨rfl,rfl,rfl,rfl⟩,.inl ⟨rfl,rfl,fun _=>rfl⟩⟩
   rw [e3]
   exact AO.toI ⟨hP.len.eqs rfl rfl rfl rfl,hP.full,hP.me,hP.st,hP.rdst,hP.free,hP.cov,hP.nd,hP.inw,hP.nec,hp,hP.st4,hP.pos,hP.wr,hP.stamp,hP.le,hP.good1,hP.good2⟩ ho
  ·rw [e]
   exact Qf (m:={ m with count:=c }) hi hn hX hP' hp (.inr rfl)
 ·rename_i g
  rw [if_neg g]
  rw [hz] at ho ⊢
  split at ho
  ·rename_i g2
   rw [if_pos g2]
   have h':AO str h0 n (dz { m with count:=c } L X) m.l.length m.w.length i ks { x with pos:=x.pos+1,state:=4 }:=by
    refine⟨hP.len.eqs rfl rfl rfl rfl,hP.full,hP.me,hP.st,hP.rdst,hP.free,hP.cov,hP.nd,hP.inw,hP.nec,hP.fin,rfl,hh.2,hP.wr,hP.stamp,hP.le,hP.good1,fun j z hj hjz=>?_⟩
    have hj:j<x.pos+1:=hj
    by_cases c:j<x.pos
    ·exact hP.good2 j z c hjz
    ·have:j=x.pos:=by omega
     subst this
     have hjz:x.seen[x.pos]? = some z:=hjz
     rw [List.getElem?_eq_getElem hh.2] at hjz
     cases hjz
     have hg:=hP.good1 _ hmem
     exact hg.now hi g2 (.inl (by show (m.l.getD x.seen[x.pos].stripe.toNat ah).held=false;simpa using g)) (by have:=hg.v0;have:=hP.le.1;show x.seen[x.pos].version≤x.now;omega) (by show x.now≤_;have:=hP.le.2;have e:(dz m L X).T=m.n:=rfl;show x.now≤m.n;omega)
   have hX':X i=gT { x with pos:=x.pos+1,state:=4 }:=by rw [hX,hP.hx,h'.hx]
   obtain⟨L',r1,r2,r3,r4⟩:=ud (m:={ m with count:=c }) hn hi hX' h' (k:=x.seen.length-(x.pos+1)) (by show x.seen.length=x.pos+1+_;omega)
   exact⟨L',r1,r2,⟨r3.seen,r3.cells,r3.stamp,r3.me⟩,r4.eqs rfl rfl rfl⟩
  ·rename_i g2
   rw [if_neg g2]
   exact Qf (m:={ m with count:=c }) hi hn hX hP' hf (.inr rfl)
theorem Of (hi:fJ str h0 n (dz m L X))(hn:i<n)(hX:X i=gT x)(h:lC str h0 n (dz m L X) m.l.length m.w.length i ks x)(hf:x.pat.fin=0)(hs:x.state=5) :
  (az m (bi x).1).2.err=0∧mi str h0 n m L X i ks x (cy x (az m (bi x).1).2) (az m (bi x).1).1:=by
 have ho:=iY h.ok (az m (bi x).1).2
 have hh:=(h.ok.here hf).2.2.2.1 hs
 have hz:x.cells.getD x.pos ⟨0,0⟩=x.cells[x.pos]:=by rw [List.getD_eq_getElem?_getD,List.getElem?_eq_getElem hh.2];rfl
 have hmem:x.cells[x.pos]∈x.cells:=List.getElem_mem hh.2
 generalize hy:x.cells[x.pos]=y at hz hmem
 have hw:x.writing=true:=h.wr.2 (.inr ⟨hf,.inl hs⟩)
 have hin:=h.inw y hmem
 have en:(bi x).1=⟨2,y.place,0,y.word,ah,ah⟩:=by
  unfold bi;rw [if_pos hf,if_neg (by omega),if_neg (by omega),if_neg (by omega),if_neg (by omega),if_neg (by omega),if_pos hs,hz]
 rw [en] at ho ⊢
 have e:∃c,az m ⟨2,y.place,0,y.word,ah,ah⟩=({ m with w:=m.w.set y.place.toNat y.word,count:=c },iS) :=
  ⟨_,by unfold az bx js;simp [hin,iS];rfl⟩
 obtain⟨c,e⟩:=e
 rw [e] at ho ⊢
 have et:cy x iS=jw { x with pos:=x.pos+1 }:=by
  unfold cy iS
  rw [gF,if_pos hf,if_neg (by omega),if_neg (by omega),if_neg (by omega),if_pos hs]
 rw [et] at ho ⊢
 refine⟨rfl,?_⟩
 have hxx:X i=⟨(x.stripes.zip x.was).map fun p=>(p.1.toNat,p.2.version),some x.now,true,x.cells,x.pos⟩:=by rw [hX];unfold gT Ez;simp [hf,hs]
 have hst:=Ow (y:=y) hi hn (by show (X i).wr=true;rw [hxx]) (by show (X i).cells[(X i).put]? = _;rw [hxx];show x.cells[x.pos]? = some y;rw [List.getElem?_eq_getElem hh.2,hy])
 have hcv:∃V,(str y.place,V)∈(X i).hd:=by
  rw [hxx]
  have:=Qy h.ok.len hh.1 (h.cov y hmem)
  simpa using this
 have hne:x.stripes≠[]:=by
  intro e;have:=h.cov y hmem;rw [e] at this;cases this
 have hne2:¬(0=x.stripes.length):=fun g=>hne (List.eq_nil_of_length_eq_zero g.symm)
 have key:∀x',x'={ x with pos:=x.pos+1 }∨(x.pos+1=x.cells.length∧x'={ x with pos:=0,state:=6 })→iK x'→mi str h0 n m L X i ks x x' { m with w:=m.w.set y.place.toNat y.word,count:=c }:=by
  intro x' hx' ho
  have hxx':gT x'=⟨(x.stripes.zip x.was).map fun p=>(p.1.toNat,p.2.version),some x.now,true,x.cells,x.pos+1⟩:=by
   rcases hx' with rfl | ⟨g,rfl⟩ <;> unfold gT Ez <;> simp [hf,hs]
   omega
  have eG:dz { m with w:=m.w.set y.place.toNat y.word,count:=c } L (cq X i (gT x'))=nh (dz m L X) i y:=by
   refine Gs.ext' (fun _=>rfl) (fun d=>L0 hin.1 hin.2 d) rfl rfl (fun k=>?_)
   show cq X i _ k=cq X i _ k
   rw [show (dz m L X).X i=X i from rfl,hxx,hxx']
  refine⟨L,?_,?_,?_,?_⟩
  ·rw [eG];exact .one hi hst (PX (by show (X i).wr=true;rw [hxx]) hcv)
  ·rw [eG]
   have hg3:∀z∈x.seen,iC str h0 n (nh (dz m L X) i y) i x.now ks z.stripe.toNat z.version:=fun z hz=>iC.own (G:=dz m L X) (G':=nh (dz m L X) i y) rfl (fun k hk=>fi hk) rfl (h.good3 hw z hz)
   have hle:=h.le (.inl hw)
   rcases hx' with rfl | ⟨g,rfl⟩
   ·refine⟨ho,h.me,h.st,h.rdst,h.free,h.cov,h.nd,?_,h.nec,h.fin,h.wr,fun _ g=>by simp only [hs] at g;omega,fun _ g=>by simp only [hs] at g;omega,fun _ g=>by simp only [hs] at g;omega,h.stamp,fun _=>hle,fun g=>(by simp only [hw] at g;cases g),fun _ g=>by simp only [hs] at g;omega,fun _=>hg3⟩
    simpa using h.inw
   ·refine⟨ho,h.me,h.st,h.rdst,h.free,h.cov,h.nd,?_,h.nec,h.fin,?_,fun _ g=>by simp at g,fun _ g=>by simp at g,fun _ g=>by simp at g,h.stamp,fun _=>hle,fun g=>(by simp only [hw] at g;cases g),fun _ g=>by simp at g,fun _=>hg3⟩
    ·simpa using h.inw
    ·simp [hw,hf]
  ·rcases hx' with rfl | ⟨g,rfl⟩ <;> exact⟨rfl,rfl,rfl,rfl⟩
  ·rcases hx' with rfl | ⟨g,rfl⟩ <;> exact .inl ⟨rfl,rfl,fun _=>rfl⟩
 unfold jw at ho ⊢
 split at ho
 ·rename_i g
  rw [if_pos g]
  have eg:jm { x with pos:=0,state:=6 }={ x with pos:=0,state:=6 }:=by unfold jm;rw [if_neg hne2]
  have ho:iK (jm { x with pos:=0,state:=6 }):=ho
  show mi str h0 n m L X i ks x (jm { x with pos:=0,state:=6 }) _
  rw [eg] at ho ⊢
  exact key _ (.inr ⟨g,rfl⟩) ho
 ·rename_i g
  rw [if_neg g]
  exact key _ (.inl rfl) ho
theorem yd {w V:Int}{rest:List (Nat×Int)}{sp:Int}(hi:fJ str h0 n (dz m L X))(hn:i<n)(hh:(X i).hd=(sp.toNat,V)::rest)(hv:((X i).wr=false∧w=V)∨((X i).wr=true∧(X i).put=(X i).cells.length∧∃now,(X i).up=some now∧w=now+1))(hsp:0≤sp∧sp<m.l.length){x':eJ}(hx':gT x'={ X i with hd:=rest }∨(rest=[]∧gT x'=sF)){c:Int} :
  z8 str h0 n i (dz m L X) (dz { m with l:=m.l.set sp.toNat ⟨w,false,0⟩,count:=c } L (cq X i (gT x'))) ∧
  ∀{t:Int} {s':Nat} {v':Int},(w=V∨(w=t+1∧(X i).up=some t))→iC str h0 n (dz m L X) i t ks s' v'→iC str h0 n (dz { m with l:=m.l.set sp.toNat ⟨w,false,0⟩,count:=c } L (cq X i (gT x'))) i t ks s' v':=by
 have hf:=PR (v:=w) hi hn hh hv
 have hvt:(X i).wr=true→V<w:=fun g=>by
  rcases hv with ⟨g2,_⟩ | ⟨_,_,now,g2,g3⟩
  ·rw [g2] at g;cases g
  ·have:=(hi.upT i hn now g2).2.2 _ V (by show _∈(X i).hd;rw [hh];exact List.mem_cons_self)
   omega
 have hft:=RA (str:=str) (n:=n) (G:=dz m L X) (v:=w) hh hvt
 have e1:∀k,(dz { m with l:=m.l.set sp.toNat ⟨w,false,0⟩,count:=c } L (cq X i { X i with hd:=rest })).X k=(i3 (dz m L X) i sp.toNat w rest).X k:=fun k=>rfl
 have eG:dz { m with l:=m.l.set sp.toNat ⟨w,false,0⟩,count:=c } L (cq X i { X i with hd:=rest })=i3 (dz m L X) i sp.toNat w rest :=
  Gs.ext' (fun s=>wK (by omega) s) (fun _=>rfl) rfl rfl e1
 have hgd:∀{t:Int} {s':Nat} {v':Int},(w=V∨(w=t+1∧(X i).up=some t))→iC str h0 n (dz m L X) i t ks s' v'→iC str h0 n (i3 (dz m L X) i sp.toNat w rest) i t ks s' v':=fun {t s' v'} h1 h2 =>
  h2.free (now:=t) hi hn hh (by rcases h1 with g | ⟨g,g2⟩;exact .inl g;exact .inr ⟨g,g2,Int.le_refl _⟩)
 rcases hx' with g | ⟨g1,g2⟩
 ·rw [g,eG]
  exact⟨.one hi hf hft,hgd⟩
 ·subst g1
  have hh2:((i3 (dz m L X) i sp.toNat w []).X i).hd=[]:=by show (cq X i _ i).hd=[];rw [fN]
  have hc:=NW hf.1 hn hh2
  have hct:=Qw (str:=str) (n:=n) hh2
  have eG2:dz { m with l:=m.l.set sp.toNat ⟨w,false,0⟩,count:=c } L (cq X i (gT x'))=rV (i3 (dz m L X) i sp.toNat w []) i:=by
   refine Gs.ext' (fun s=>wK (by omega) s) (fun _=>rfl) rfl rfl (fun k=>?_)
   show cq X i _ k=cq (cq X i _) i _ k
   rw [Kz,g2]
  rw [eG2]
  exact⟨(z8.one hi hf hft).trans (.one hf.1 hc hct),fun h1 h2=>iC.own (G:=i3 (dz m L X) i sp.toNat w []) (G':=rV (i3 (dz m L X) i sp.toNat w []) i) rfl (fun k hk=>fi hk) rfl (hgd h1 h2)⟩
theorem MG (h:gR x){k:Nat}(hk:k<x.was.length):((x.stripes.zip x.was).map fun p=>(p.1.toNat,p.2.version)).drop k=((x.stripes.getD k 0).toNat,(x.was.getD k ah).version)::((x.stripes.zip x.was).map fun p=>(p.1.toNat,p.2.version)).drop (k+1):=by
 have h1:=PI h hk
 have h2:=Lo h
 rw [List.drop_eq_getElem_cons (by rw [h2];exact hk)]
 rw [List.getElem?_eq_getElem (by rw [h2];exact hk)] at h1
 rw [Option.some.inj h1]
theorem NL (hi:fJ str h0 n (dz m L X))(hn:i<n)(hT:m.n<4611686018427387904)(hX:X i=gT x)(h:lC str h0 n (dz m L X) m.l.length m.w.length i ks x)(hf:x.pat.fin=0)(hs:x.state=6) :
  (az m (bi x).1).2.err=0∧mi str h0 n m L X i ks x (cy x (az m (bi x).1).2) (az m (bi x).1).1:=by
 have ho:=iY h.ok (az m (bi x).1).2
 have hh:=(h.ok.here hf).2.2.2.2.1 hs
 have hw:x.writing=true:=h.wr.2 (.inr ⟨hf,.inr hs⟩)
 have hle:=h.le (.inl hw)
 have hst:=h.st _ (DV hh.2)
 have e0:=h.stamp.1
 have eT:(dz m L X).T=m.n:=rfl
 have en:(bi x).1=⟨5,x.stripes.getD x.pos 0,0,0,ah,⟨x.now+1,false,0⟩⟩:=by
  unfold bi;rw [if_pos hf,if_neg (by omega),if_neg (by omega),if_neg (by omega),if_neg (by omega),if_neg (by omega),if_neg (by omega),if_pos hs,PM (by omega) (by omega)]
 rw [en] at ho ⊢
 have hmay:kR m.l (x.stripes.getD x.pos 0) ⟨x.now+1,false,0⟩=0:=LM hst (Cg (by show x.now+1<_;omega) (fun g=>by cases g) (fun _=>rfl))
 have e:∃c,az m ⟨5,x.stripes.getD x.pos 0,0,0,ah,⟨x.now+1,false,0⟩⟩=({ m with l:=m.l.set (x.stripes.getD x.pos 0).toNat ⟨x.now+1,false,0⟩,count:=c },⟨0,ah,false,0⟩) :=
  ⟨_,by unfold az bx ju;simp only [hmay];rfl⟩
 obtain⟨c,e⟩:=e
 rw [e] at ho ⊢
 have et:cy x ⟨0,ah,false,0⟩=jm { x with pos:=x.pos+1 }:=by
  unfold cy
  rw [gF,if_pos hf,if_neg (by omega),if_neg (by omega),if_neg (by omega),if_neg (by omega),if_pos hs]
 rw [et] at ho ⊢
 refine⟨rfl,?_⟩
 have hxx:X i=⟨((x.stripes.zip x.was).map fun p=>(p.1.toNat,p.2.version)).drop x.pos,some x.now,true,x.cells,x.cells.length⟩:=by rw [hX];unfold gT Ez;simp [hf,hs]
 have hlw:x.pos<x.was.length:=by omega
 have hd:=MG h.ok.len hlw
 have hhd:(X i).hd=((x.stripes.getD x.pos 0).toNat,(x.was.getD x.pos ah).version)::((x.stripes.zip x.was).map fun p=>(p.1.toNat,p.2.version)).drop (x.pos+1):=by rw [hxx];exact hd
 have hv:((X i).wr=false∧x.now+1=(x.was.getD x.pos ah).version)∨((X i).wr=true∧(X i).put=(X i).cells.length∧∃now,(X i).up=some now∧x.now+1=now+1):=.inr (by rw [hxx];exact⟨rfl,rfl,x.now,rfl,rfl⟩)
 have hup:(X i).up=some x.now:=by rw [hxx]
 unfold jm at ho ⊢
 split at ho
 ·rename_i g
  rw [if_pos g]
  have hx':gT { x with pos:=x.pos+1,pat:=x.pat.stop 2 0 (-1) }=sF:=by unfold gT;simp [oU.stop]
  have hr:((x.stripes.zip x.was).map fun p=>(p.1.toNat,p.2.version)).drop (x.pos+1)=[]:=by
   refine List.drop_eq_nil_of_le ?_
   have g:x.pos+1=x.stripes.length:=g
   rw [Lo h.ok.len];omega
  obtain⟨r1,r2⟩:=yd (ks:=ks) (c:=c) hi hn hhd hv hst (.inr ⟨hr,hx'⟩)
  refine⟨L,r1,?_,⟨rfl,rfl,rfl,rfl⟩,.inl ⟨rfl,rfl,fun _=>rfl⟩⟩
  refine⟨ho,h.me,by simpa using h.st,by simpa using h.rdst,h.free,h.cov,h.nd,h.inw,h.nec,.inr (.inl rfl),?_,fun g=>by simp [oU.stop] at g,fun g=>by simp [oU.stop] at g,fun g=>by simp [oU.stop] at g,h.stamp,fun _=>hle,fun g=>(by simp only [hw] at g;cases g),fun g=>by simp [oU.stop] at g,fun _ z hz=>r2 (.inr ⟨rfl,hup⟩) (h.good3 hw z hz)⟩
  simp [hw,oU.stop]
 ·rename_i g
  rw [if_neg g]
  have hx':gT { x with pos:=x.pos+1 }={ X i with hd:=((x.stripes.zip x.was).map fun p=>(p.1.toNat,p.2.version)).drop (x.pos+1) }:=by rw [hxx];unfold gT Ez;simp [hf,hs]
  obtain⟨r1,r2⟩:=yd (ks:=ks) (c:=c) hi hn hhd hv hst (.inl hx')
  refine⟨L,r1,?_,⟨rfl,rfl,rfl,rfl⟩,.inl ⟨rfl,rfl,fun _=>rfl⟩⟩
  exact⟨ho,h.me,by simpa using h.st,by simpa using h.rdst,h.free,h.cov,h.nd,h.inw,h.nec,h.fin,h.wr,h.fin7,h.lock,h.now,h.stamp,fun _=>hle,fun g=>(by simp only [hw] at g;cases g),fun _ g=>by simp only [hs] at g;omega,fun _ z hz=>r2 (.inr ⟨rfl,hup⟩) (h.good3 hw z hz)⟩
theorem OD (hi:fJ str h0 n (dz m L X))(hn:i<n)(hT:m.n<4611686018427387904)(hX:X i=gT x)(h:lC str h0 n (dz m L X) m.l.length m.w.length i ks x)(hf:x.pat.fin=0)(hs:x.state=7) :
  (az m (bi x).1).2.err=0∧mi str h0 n m L X i ks x (cy x (az m (bi x).1).2) (az m (bi x).1).1:=by
 have ho:=iY h.ok (az m (bi x).1).2
 have hh:=(h.ok.here hf).2.2.2.2.2 hs
 have hw:=h.w0 hf (by omega)
 have hls:x.pos<x.stripes.length:=by have:=h.ok.len.was;omega
 have hst:=h.st _ (DV hls)
 have eT:(dz m L X).T=m.n:=rfl
 have hxx:X i=⟨((x.stripes.zip x.was).map fun p=>(p.1.toNat,p.2.version)).drop x.pos,none,false,[],0⟩:=by rw [hX];unfold gT Ez;simp [hf,hs]
 have hd:=MG h.ok.len hh.1
 have hhd:(X i).hd=((x.stripes.getD x.pos 0).toNat,(x.was.getD x.pos ah).version)::((x.stripes.zip x.was).map fun p=>(p.1.toNat,p.2.version)).drop (x.pos+1):=by rw [hxx];exact hd
 generalize hl:x.was.getD x.pos ah=wl at hhd
 have hmw:wl∈x.was:=by rw [←hl,List.getD_eq_getElem?_getD,List.getElem?_eq_getElem hh.1];exact List.getElem_mem hh.1
 have hfw:=h.free _ hmw
 have hV:wl.version≤m.n:=by
  have h1:=hi.own i hn _ _ (by show _∈(X i).hd;rw [hhd];exact List.mem_cons_self)
  have h2:=(hi.v (x.stripes.getD x.pos 0).toNat).2
  rw [h1] at h2;exact h2
 obtain⟨V,b,o⟩:=wl
 obtain⟨rfl,rfl⟩:=hfw
 simp only at hV hhd
 have en:(bi x).1=⟨5,x.stripes.getD x.pos 0,0,0,ah,⟨V,false,0⟩⟩:=by
  unfold bi;rw [if_pos hf,if_neg (by omega),if_neg (by omega),if_neg (by omega),if_neg (by omega),if_neg (by omega),if_neg (by omega),if_neg (by omega),hl]
 rw [en] at ho ⊢
 have hmay:kR m.l (x.stripes.getD x.pos 0) ⟨V,false,0⟩=0:=LM hst (Cg (by show V<_;omega) (fun g=>by cases g) (fun _=>rfl))
 have e:∃c,az m ⟨5,x.stripes.getD x.pos 0,0,0,ah,⟨V,false,0⟩⟩=({ m with l:=m.l.set (x.stripes.getD x.pos 0).toNat ⟨V,false,0⟩,count:=c },⟨0,ah,false,0⟩) :=
  ⟨_,by unfold az bx ju;simp only [hmay];rfl⟩
 obtain⟨c,e⟩:=e
 rw [e] at ho ⊢
 have et:cy x ⟨0,ah,false,0⟩=iu { x with pos:=x.pos+1 }:=by
  unfold cy
  rw [gF,if_pos hf,if_neg (by omega),if_neg (by omega),if_neg (by omega),if_neg (by omega),if_neg (by omega)]
 rw [et] at ho ⊢
 refine⟨rfl,?_⟩
 have hv:((X i).wr=false∧V=V)∨((X i).wr=true∧(X i).put=(X i).cells.length∧∃now,(X i).up=some now∧V=now+1):=.inl ⟨by rw [hxx],rfl⟩
 unfold iu at ho ⊢
 split at ho
 ·rename_i g
  rw [if_pos g]
  have hx':gT { x with pos:=x.pos+1,pat:=x.pat.stop x.fin x.err x.by_ }=sF:=by unfold gT;simp [oU.stop,hh.2]
  have hr:((x.stripes.zip x.was).map fun p=>(p.1.toNat,p.2.version)).drop (x.pos+1)=[]:=by
   refine List.drop_eq_nil_of_le ?_
   have g:x.pos+1=x.was.length:=g
   rw [Lo h.ok.len];omega
  obtain⟨r1,r2⟩:=yd (ks:=ks) (c:=c) hi hn hhd hv hst (.inr ⟨hr,hx'⟩)
  refine⟨L,r1,?_,⟨rfl,rfl,rfl,rfl⟩,.inl ⟨rfl,rfl,fun _=>rfl⟩⟩
  have h7:=h.fin7 hf hs
  refine⟨ho,h.me,by simpa using h.st,by simpa using h.rdst,h.free,h.cov,h.nd,h.inw,h.nec,.inr (.inr h7),?_,fun g=>absurd g hh.2,fun g=>absurd g hh.2,fun g=>absurd g hh.2,h.stamp,fun g=>?_,fun _ z hz=>r2 (.inl rfl) (h.good1 hw z hz),fun g=>absurd g hh.2,fun g=>(by simp only [hw] at g;cases g)⟩
  ·simp only [hw,oU.stop];simp;omega
  ·simp only [hw,oU.stop] at g;simp at g;omega
 ·rename_i g
  rw [if_neg g]
  have hx':gT { x with pos:=x.pos+1 }={ X i with hd:=((x.stripes.zip x.was).map fun p=>(p.1.toNat,p.2.version)).drop (x.pos+1) }:=by rw [hxx];unfold gT Ez;simp [hf,hs]
  obtain⟨r1,r2⟩:=yd (ks:=ks) (c:=c) hi hn hhd hv hst (.inl hx')
  refine⟨L,r1,?_,⟨rfl,rfl,rfl,rfl⟩,.inl ⟨rfl,rfl,fun _=>rfl⟩⟩
  exact⟨ho,h.me,by simpa using h.st,by simpa using h.rdst,h.free,h.cov,h.nd,h.inw,h.nec,h.fin,h.wr,h.fin7,h.lock,h.now,h.stamp,h.le,fun _ z hz=>r2 (.inl rfl) (h.good1 hw z hz),fun _ g=>(by simp only [hs] at g;omega),fun g=>(by simp only [hw] at g;cases g)⟩
theorem QT (hi:fJ str h0 n (dz m L X))(hn:i<n)(hn4:n≤4)(hT:m.n<4611686018427387904)(hX:X i=gT x)(h:lC str h0 n (dz m L X) m.l.length m.w.length i ks x)(hf:x.pat.fin=0) :
  (az m (bi x).1).2.err=0∧mi str h0 n m L X i ks x (cy x (az m (bi x).1).2) (az m (bi x).1).1:=by
 have:=h.ok.st
 by_cases c0:x.state=0
 ·exact OX hi hT hX h hf c0
 by_cases c1:x.state=1
 ·exact OH hi hn hn4 hT hX h hf c1
 by_cases c2:x.state=2
 ·exact Ov hi hX h hf c2
 by_cases c3:x.state=3
 ·exact O2 hi hn hX h hf c3
 by_cases c4:x.state=4
 ·exact OP hi hn hX h hf c4
 by_cases c5:x.state=5
 ·exact Of hi hn hX h hf c5
 by_cases c6:x.state=6
 ·exact NL hi hn hT hX h hf c6
 exact OD hi hn hT hX h hf (by omega)
end
end Go.Proofs.YtoealglbimbbmaaGreatDoor.S
