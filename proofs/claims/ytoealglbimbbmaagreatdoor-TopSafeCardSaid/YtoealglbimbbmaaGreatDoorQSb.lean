import Derived.Test.YtoealglbimbbmaaGreatDoorQPq
import Derived.Test.YtoealglbimbbmaaGreatDoorQPl
namespace Go.Proofs.YtoealglbimbbmaaGreatDoor.S
open Go Go.Proofs
set_option linter.unusedVariables false
set_option linter.unusedSimpArgs false
set_option linter.unusedVariables false
set_option linter.unusedSimpArgs false
theorem gL {h:Hp}{a x:Int}:eN h a x a=x:=if_pos rfl
theorem bv {h:Hp}{a x p:Int}(e:p≠a):eN h a x p=h p:=if_neg e
abbrev Bk:=Int×Int
def yE (c:Int):Int:=if c=1 then 2 else if c=2 then 4 else if c=3 then 8 else 16
theorem gF {c:Int}:2≤yE c∧yE c≤16:=by unfold yE;repeat' (first | omega | split)
def mT (b:Bk)(p:Int):Prop:=b.1≤p∧p<b.1+yE b.2
def zp:Int→List Bk→Int→Prop
 | p,[],e=>p=e
 | p,b::l,e=>b.1=p+1∧1≤b.2∧b.2≤4∧zp (p+1+yE b.2) l e
theorem wQ {l:List Bk}:∀{p e:Int},zp p l e→p≤e:=by
 induction l with
 | nil=>intro p e h;exact Int.le_of_eq h
 | cons b l ih=>intro p e h;have:=ih h.2.2.2;have:=gF (c:=b.2);omega
theorem yx {l:List Bk}{b:Bk}:∀{p e:Int},zp p l e→b∈l→p+1≤b.1∧b.1+yE b.2≤e∧1≤b.2∧b.2≤4:=by
 induction l with
 | nil=>intro p e h hb;cases hb
 | cons c l ih =>
  intro p e h hb
  have hc:=wQ h.2.2.2
  have:=gF (c:=c.2)
  rcases List.mem_cons.1 hb with rfl | hb
  ·have h1:=h.1;have h2:=h.2.1;have h3:=h.2.2.1;omega
  ·have:=ih h.2.2.2 hb;omega
theorem Ig {l:List Bk}{b b':Bk}:∀{p e:Int},zp p l e→b∈l→b'∈l→b=b'∨b.1+yE b.2<b'.1∨b'.1+yE b'.2<b.1:=by
 induction l with
 | nil=>intro p e h hb;cases hb
 | cons c l ih =>
  intro p e h hb hb'
  have h1:=h.1
  rcases List.mem_cons.1 hb with e | hb <;> rcases List.mem_cons.1 hb' with e' | hb'
  ·exact .inl (e.trans e'.symm)
  ·have:=yx h.2.2.2 hb';subst e;omega
  ·have:=yx h.2.2.2 hb;subst e';omega
  ·exact ih h.2.2.2 hb hb'
theorem KI {l:List Bk}{c:Int}(h1:1≤c)(h4:c≤4):∀{p e:Int},zp p l e→zp p (l++[(e+1,c)]) (e+1+yE c):=by
 induction l with
 | nil=>intro p e h;have h:p=e:=h;subst h;exact⟨rfl,h1,h4,rfl⟩
 | cons b l ih=>intro p e h;exact⟨h.1,h.2.1,h.2.2.1,ih h.2.2.2⟩
def Fl (h:Hp):Int→List Int→Prop
 | a,[]=>a=0
 | a,b::l=>a=b∧b≠0∧Fl h (h b) l
theorem Fl.frame {h h':Hp}{l:List Int}:∀{a:Int},Fl h a l→(∀b∈l,h' b=h b)→Fl h' a l:=by
 induction l with
 | nil=>intro a H _;exact H
 | cons b l ih =>
  intro a H e
  refine⟨H.1,H.2.1,?_⟩
  rw [e b (by simp)]
  exact ih H.2.2 (fun c hc=>e c (by simp [hc]))
theorem Fl.ne0 {h:Hp}{a:Int}{l:List Int}(H:Fl h a l)(ha:a≠0):∃l',l=a::l'∧Fl h (h a) l':=by
 cases l with
 | nil=>exact absurd H ha
 | cons b l=>obtain⟨rfl,_,H⟩:=H;exact⟨l,rfl,H⟩
structure db (h:Hp)(B R sh:List Bk)(fl:Int→List Int):Prop where
 parted:zp 14 sh (h 5)
 top:h 5≤256
 sub:∀b∈B,b∈sh
 nodup:B.Nodup
 hdr:∀b∈sh,h (b.1-1)=if b∈B then b.2+8 else b.2
 free:∀c,1≤c→c≤4→Fl h (h c) (fl c)∧(fl c).Nodup∧∀a∈fl c,(a,c)∈sh∧(a,c) ∉ B
 rest:∀b∈R,b∈sh∧b ∉ B∧b.1 ∉ fl b.2
 rnd:R.Nodup
def Ar (S0:List Bk)(h:Hp)(B R:List Bk):Prop:=∃sh fl,db h B R sh fl∧S0 <+: sh
section
variable {h h':Hp}{B R sh:List Bk}{S0:List Bk}{fl:Int→List Int}{a c p x:Int}{b b':Bk}
theorem db.mem (A:db h B R sh fl)(hb:b∈sh):15≤b.1∧b.1+yE b.2≤h 5∧b.1+yE b.2≤256∧1≤b.2∧b.2≤4:=by
 have:=yx A.parted hb
 have:=A.top
 omega
theorem db.apart (A:db h B R sh fl)(hb:b∈sh)(hb':b'∈sh):b=b'∨b.1+yE b.2<b'.1∨b'.1+yE b'.2<b.1:=Ig A.parted hb hb'
theorem db.body (A:db h B R sh fl)(hb:b∈sh)(hb':b'∈sh)(h1:mT b p)(h2:mT b' p):b=b':=by
 have:=A.apart hb hb'
 unfold mT at h1 h2
 rcases this with e | e | e
 ·exact e
 ·omega
 ·omega
theorem db.head_body (A:db h B R sh fl)(hb:b∈sh)(hb':b'∈sh)(h1:mT b p):p≠b'.1-1:=by
 have:=A.apart hb hb'
 have:=gF (c:=b'.2)
 unfold mT at h1
 rcases A.apart hb hb' with rfl | e | e
 ·omega
 ·omega
 ·omega
theorem db.head_head (A:db h B R sh fl)(hb:b∈sh)(hb':b'∈sh)(e:b.1=b'.1):b=b':=by
 have:=A.apart hb hb'
 have:=gF (c:=b.2)
 have:=gF (c:=b'.2)
 rcases A.apart hb hb' with e | e | e
 ·exact e
 ·omega
 ·omega
theorem rQ (hb:b∈sh):mT b b.1:=by have:=gF (c:=b.2);unfold mT;omega
theorem pT:mT (a,c) a:=by have:=gF (c:=c);unfold mT;simp only;omega
theorem db.frame (A:db h B R sh fl)(e5:h' 5=h 5)(ec:∀c,1≤c→c≤4→h' c=h c)(eh:∀b∈sh,h' (b.1-1)=h (b.1-1))(ef:∀c,1≤c→c≤4→∀a∈fl c,h' a=h a):db h' B R sh fl:=by
 refine⟨by rw [e5];exact A.parted,by rw [e5];exact A.top,A.sub,A.nodup,fun b hb=>by rw [eh b hb];exact A.hdr b hb,fun c h1 h4=>?_,A.rest,A.rnd⟩
 obtain⟨f1,f2,f3⟩:=A.free c h1 h4
 exact⟨by rw [ec c h1 h4];exact f1.frame (ef c h1 h4),f2,f3⟩
theorem db.upd_body (A:db h B R sh fl)(hb:b∈B)(hp:mT b p):db (eN h p x) B R sh fl:=by
 have hs:=A.sub b hb
 have hm:=A.mem hs
 have kj:15≤p:=by unfold mT at hp;omega
 refine A.frame (bv (by omega)) (fun c h1 h4=>bv (by omega)) (fun b' hb'=>bv (Ne.symm (A.head_body hs hb' hp))) (fun c h1 h4 a ha=>bv fun e=>?_)
 obtain⟨g1,g2⟩:=(A.free c h1 h4).2.2 a ha
 subst e
 have:=A.body hs g1 hp pT
 subst this
 exact g2 hb
theorem db.upd_root (A:db h B R sh fl)(h6:6≤p)(h14:p<14):db (eN h p x) B R sh fl:=by
 refine A.frame (bv (by omega)) (fun c h1 h4=>bv (by omega)) (fun b' hb'=>bv (by have:=A.mem hb';omega)) (fun c h1 h4 a ha=>bv fun e=>?_)
 have:=A.mem ((A.free c h1 h4).2.2 a ha).1
 simp only at this
 omega
theorem Ar.upd_body (A:Ar S0 h B R)(hb:b∈B)(hp:mT b p):Ar S0 (eN h p x) B R:=by
 obtain⟨sh,fl,A,hS⟩:=A
 exact⟨sh,fl,A.upd_body hb hp,hS⟩
theorem Ar.upd_root (A:Ar S0 h B R)(h6:6≤p)(h14:p<14):Ar S0 (eN h p x) B R:=by
 obtain⟨sh,fl,A,hS⟩:=A
 exact⟨sh,fl,A.upd_root h6 h14,hS⟩
theorem Ar.perm (A:Ar S0 h B R){B':List Bk}(e:B.Perm B'):Ar S0 h B' R:=by
 obtain⟨sh,fl,A,hS⟩:=A
 refine⟨sh,fl,⟨A.parted,A.top,fun b hb=>A.sub b (e.mem_iff.2 hb),e.nodup_iff.1 A.nodup,fun b hb=>?_,fun c h1 h4=>?_,fun b hb=>?_,A.rnd⟩,hS⟩
 ·rw [A.hdr b hb];simp only [e.mem_iff]
 ·obtain⟨f1,f2,f3⟩:=A.free c h1 h4
  exact⟨f1,f2,fun a ha=>⟨(f3 a ha).1,fun hb=>(f3 a ha).2 (e.mem_iff.2 hb)⟩⟩
 ·obtain⟨g1,g2,g3⟩:=A.rest b hb
  exact⟨g1,fun hb=>g2 (e.mem_iff.2 hb),g3⟩
theorem db.reuse (A:db h B R sh fl)(h1:1≤c)(h4:c≤4)(ha:h c=a)(h0:a≠0) :
  (a,c)∈sh∧(a,c) ∉ B∧∃fl',db (eN (eN h c (h a)) (a-1) (c+8)) ((a,c)::B) R sh fl':=by
 obtain⟨f1,f2,f3⟩:=A.free c h1 h4
 rw [ha] at f1
 obtain⟨l,el,fl2⟩:=f1.ne0 h0
 obtain⟨g1,g2⟩:=f3 a (by rw [el];simp)
 have hm:=A.mem g1
 simp only at hm
 rw [el,List.nodup_cons] at f2
 refine⟨g1,g2,fun c'=>if c'=c then l else fl c',?_⟩
 refine⟨?_,?_,?_,List.nodup_cons.2 ⟨g2,A.nodup⟩,?_,?_,?_,A.rnd⟩
 ·rw [bv (by omega),bv (by omega)];exact A.parted
 ·rw [bv (by omega),bv (by omega)];exact A.top
 ·intro b hb
  rcases List.mem_cons.1 hb with rfl | hb
  ·exact g1
  ·exact A.sub b hb
 ·intro b hb
  have hmb:=A.mem hb
  by_cases e:b=(a,c)
  ·subst e
   simp [gL]
  ·have ne:b.1-1≠a-1:=fun e2=>e (A.head_head hb g1 (by simp only;omega))
   rw [bv ne,bv (by omega),A.hdr b hb]
   simp [e]
 ·intro c' h1' h4'
  obtain⟨k1,k2,k3⟩:=A.free c' h1' h4'
  have fr:∀(l':List Int),(∀b∈l',b∈fl c')→∀b∈l',eN (eN h c (h a)) (a-1) (c+8) b=h b:=fun l' hl' b hb=>by
   have hb1:=(k3 b (hl' b hb)).1
   have:=A.mem hb1
   have h3:=A.head_body hb1 g1 pT
   simp only at this h3
   rw [bv h3,bv (by omega)]
  by_cases e:c'=c
  ·subst e
   rw [if_pos rfl,bv (by omega),gL]
   have hll:∀b∈l,b∈fl c':=fun b hb=>by rw [el];simp [hb]
   refine⟨fl2.frame (fr l hll),f2.2,fun b hb=>⟨(k3 b (hll b hb)).1,fun h2=>?_⟩⟩
   rcases List.mem_cons.1 h2 with e2 | h2
   ·have:b=a:=congrArg Prod.fst e2
    subst this
    exact f2.1 hb
   ·exact(k3 b (hll b hb)).2 h2
  ·rw [if_neg e,bv (by omega),bv (by omega)]
   refine⟨k1.frame (fr _ fun b hb=>hb),k2,fun b hb=>⟨(k3 b hb).1,fun h2=>?_⟩⟩
   rcases List.mem_cons.1 h2 with e2 | h2
   ·exact e (congrArg Prod.snd e2)
   ·exact(k3 b hb).2 h2
 ·intro b hb
  obtain⟨r1,r2,r3⟩:=A.rest b hb
  refine⟨r1,fun h2=>?_,?_⟩
  ·rcases List.mem_cons.1 h2 with e2 | h2
   ·subst e2;apply r3;simp only;rw [el];simp
   ·exact r2 h2
  ·split
   ·rename_i e;rw [e,el] at r3;exact fun h=>r3 (by simp [h])
   ·exact r3
theorem db.grown (A:db h B R sh fl)(h1:1≤c)(h4:c≤4)(hw:h 5+1+yE c≤256) :
  (h 5+1,c) ∉ sh∧(∀b∈sh,b.1+yE b.2≤h 5)∧db (eN (eN h 5 (h 5+1+yE c)) (h 5) (c+8)) ((h 5+1,c)::B) R (sh++[(h 5+1,c)]) fl:=by
 have hle:=wQ A.parted
 have hbz:=gF (c:=c)
 have hn:(h 5+1,c) ∉ sh:=fun hb=>by have:=A.mem hb;simp only at this;omega
 have hall:∀b∈sh,b.1+yE b.2≤h 5:=fun b hb=>(A.mem hb).2.1
 refine⟨hn,hall,?_⟩
 refine⟨?_,?_,?_,List.nodup_cons.2 ⟨fun hb=>hn (A.sub _ hb),A.nodup⟩,?_,?_,?_,A.rnd⟩
 ·rw [bv (by omega),gL];exact KI h1 h4 A.parted
 ·rw [bv (by omega),gL];exact hw
 ·intro b hb
  rcases List.mem_cons.1 hb with rfl | hb
  ·simp
  ·exact List.mem_append_left _ (A.sub b hb)
 ·intro b hb
  rcases List.mem_append.1 hb with hb | hb
  ·have hm:=A.mem hb
   have:=gF (c:=b.2)
   have e:b≠(h 5+1,c):=fun e=>hn (e ▸ hb)
   rw [bv (by omega),bv (by omega),A.hdr b hb]
   simp [e]
  ·rw [List.mem_singleton] at hb
   subst hb
   simp only
   rw [show h 5+1-1=h 5 by omega,gL]
   simp
 ·intro c' h1' h4'
  obtain⟨k1,k2,k3⟩:=A.free c' h1' h4'
  rw [bv (by omega),bv (by omega)]
  refine⟨k1.frame fun b hb=>?_,k2,fun b hb=>⟨List.mem_append_left _ (k3 b hb).1,fun h2=>?_⟩⟩
  ·have hm:=A.mem (k3 b hb).1
   have:=gF (c:=c')
   simp only at hm
   rw [bv (by omega),bv (by omega)]
  ·rcases List.mem_cons.1 h2 with e2 | h2
   ·exact hn (e2 ▸ (k3 b hb).1)
   ·exact(k3 b hb).2 h2
 ·intro b hb
  obtain⟨r1,r2,r3⟩:=A.rest b hb
  refine⟨List.mem_append_left _ r1,fun h2=>?_,r3⟩
  rcases List.mem_cons.1 h2 with e2 | h2
  ·exact hn (e2 ▸ r1)
  ·exact r2 h2
theorem db.rests (A:db h ((a,c)::B) R sh fl):db (eN h (a-1) c) B ((a,c)::R) sh fl:=by
 have hs:=A.sub (a,c) (by simp)
 have hm:=A.mem hs
 simp only at hm
 have hn:=List.nodup_cons.1 A.nodup
 refine⟨?_,?_,fun b hb=>A.sub b (by simp [hb]),hn.2,?_,?_,?_,?_⟩
 ·rw [bv (by omega)];exact A.parted
 ·rw [bv (by omega)];exact A.top
 ·intro b hb
  by_cases e:b=(a,c)
  ·subst e;simp [gL,hn.1]
  ·have ne:b.1-1≠a-1:=fun e2=>e (A.head_head hb hs (by simp only;omega))
   rw [bv ne,A.hdr b hb]
   simp [e]
 ·intro c' h1' h4'
  obtain⟨k1,k2,k3⟩:=A.free c' h1' h4'
  rw [bv (by omega)]
  refine⟨k1.frame fun b hb=>?_,k2,fun b hb=>⟨(k3 b hb).1,fun h2=>(k3 b hb).2 (by simp [h2])⟩⟩
  exact bv (A.head_body (k3 b hb).1 hs pT)
 ·intro b hb
  rcases List.mem_cons.1 hb with rfl | hb
  ·refine⟨hs,hn.1,fun hf=>?_⟩
   exact((A.free c (by omega) (by omega)).2.2 a hf).2 (by simp)
  ·obtain⟨r1,r2,r3⟩:=A.rest b hb
   exact⟨r1,fun h2=>r2 (by simp [h2]),r3⟩
 ·exact List.nodup_cons.2 ⟨fun hr=>(A.rest _ hr).2.1 (by simp),A.rnd⟩
theorem db.give (A:db h B ((a,c)::R) sh fl):∃fl',db (eN (eN h a (h c)) c a) B R sh fl':=by
 obtain⟨r1,r2,r3⟩:=A.rest (a,c) (by simp)
 have hm:=A.mem r1
 simp only at hm r3
 have hn:=List.nodup_cons.1 A.rnd
 refine⟨fun c'=>if c'=c then a::fl c else fl c',?_⟩
 refine⟨?_,?_,A.sub,A.nodup,?_,?_,?_,hn.2⟩
 ·rw [bv (by omega),bv (by omega)];exact A.parted
 ·rw [bv (by omega),bv (by omega)];exact A.top
 ·intro b hb
  have h3:=A.head_body r1 hb pT
  have:=A.mem hb
  rw [bv (by omega),bv (by omega),A.hdr b hb]
 ·intro c' h1' h4'
  obtain⟨k1,k2,k3⟩:=A.free c' h1' h4'
  have fr:a ∉ fl c'→∀b∈fl c',eN (eN h a (h c)) c a b=h b:=fun ha b hb=>by
   have hb1:=(k3 b hb).1
   have:=A.mem hb1
   simp only at this
   rw [bv (by omega),bv (show b≠a from fun e=>ha (e ▸ hb))]
  by_cases e:c'=c
  ·subst e
   rw [if_pos rfl,gL]
   refine⟨⟨rfl,by omega,?_⟩,List.nodup_cons.2 ⟨r3,k2⟩,fun b hb=>?_⟩
   ·rw [bv (by omega),gL]
    exact k1.frame (fr r3)
   ·rcases List.mem_cons.1 hb with rfl | hb
    ·exact⟨r1,r2⟩
    ·exact k3 b hb
  ·rw [if_neg e,bv (by omega),bv (by omega)]
   refine⟨k1.frame (fr fun ha=>?_),k2,k3⟩
   have:=A.head_head r1 (k3 a ha).1 rfl
   exact e (congrArg Prod.snd this).symm
 ·intro b hb
  obtain⟨q1,q2,q3⟩:=A.rest b (by simp [hb])
  refine⟨q1,q2,?_⟩
  split
  ·rename_i e
   intro hf
   rw [←e] at hf
   rcases List.mem_cons.1 hf with e2 | hf
   ·exact hn.1 (by rw [show (a,c)=b from Prod.ext e2.symm e.symm];exact hb)
   ·exact q3 hf
  ·exact q3
end
theorem Sp {n:Int}(h1:-9223372036854775808≤n)(h2:n<9223372036854775808):gi n=n:=gh h1 (by omega)
theorem Qh {n:Int}(h1:0≤n)(h2:n<18446744073709551616):wU n=n:=CI h1 (by omega)
theorem zM {cs:List av}:∀{h:Hp}{c:Int},(cs.map (·.place)).Nodup→sJ h cs c=(dD cs c).getD (h c):=by
 induction cs with
 | nil=>intro h c _;rfl
 | cons y l ih =>
  intro h c hn
  rw [List.map_cons,List.nodup_cons] at hn
  show sJ (eN h y.place y.word) l c=_
  rw [ih hn.2]
  show _=((if y.place=c then some y.word else dD l c):Option Int).getD (h c)
  by_cases e:y.place=c
  ·rw [if_pos e]
   have:dD l c=none:=by
    cases hl:dD l c with
    | none=>rfl
    | some z =>
     exfalso
     have hi:=rh (cs:=l) (a:=c)
     rw [hl] at hi
     cases hj:iY l c with
     | none=>rw [hj] at hi;cases hi
     | some j =>
      obtain⟨g1,g2,_⟩:=ll hj
      exact hn.1 (by rw [e,←g2];exact List.mem_map.2 ⟨_,List.getElem_mem g1,rfl⟩)
   rw [this]
   show eN h y.place y.word c=y.word
   unfold eN;rw [if_pos e.symm]
  ·rw [if_neg e]
   have:eN h y.place y.word c=h c:=by unfold eN;rw [if_neg (Ne.symm e)]
   rw [this]
theorem MY {cs:List av}{h:Hp}{a x:Int}(ho:zW cs)(ha:uA a=true):sJ h (hZ cs a x)=eN (sJ h cs) a x:=by
 funext c
 rw [zM (ho.put ha).nodup,Bv]
 unfold eN
 by_cases e:c=a
 ·rw [if_pos e,if_pos e.symm];rfl
 ·rw [if_neg e,if_neg (Ne.symm e),zM ho.nodup]
structure Ag (h:Hp)(s:fa):Prop where
 up:s.l.up=[]
 k:∀a x,dD s.k a=some x→h a=x
 ok:zW s.l.r.c
abbrev kj (h:Hp)(s:fa):Hp:=sJ h s.l.r.c
abbrev TJ (s:fa)(p:Int):fa:=⟨s.size,s.k,s.l,p⟩
section
variable {h:Hp}{s t:fa}{a x p n c:Int}{l:List av}
theorem Ag.read (A:Ag h s):cr s a=(s,kj h s a,0)∨cr s a=(TJ s a,0,11)∨cr s a=(s,0,2):=by
 unfold cr
 split
 ·rw [A.up]
  have er:oy [s.l.r] a=dD s.l.r.c a:=by
   show (match dD s.l.r.c a with | some x=>some x | none=>oy [] a)=_
   cases dD s.l.r.c a <;> rfl
  rw [er]
  cases h1:dD s.l.r.c a with
  | some x=>left;show (s,x,(0:Int))=_;rw [show kj h s a=x by rw [kj,zM A.ok.nodup,h1];rfl]
  | none =>
   dsimp only
   cases h2:dD s.k a with
   | some x=>left;show (s,x,(0:Int))=_;rw [show kj h s a=x by rw [kj,zM A.ok.nodup,h1];exact A.k a x h2]
   | none=>right;left;rfl
 ·exact .inr (.inr rfl)
structure Wr (s t:fa)(l:List av):Prop where
 size:t.size=s.size
 k:t.k=s.k
 up:t.l.up=s.l.up
 f:t.l.r.f=s.l.r.f
 ok:zW s.l.r.c→zW t.l.r.c
 ap:zW s.l.r.c→∀h:Hp,sJ h t.l.r.c=sJ (sJ h s.l.r.c) l
 pl:∀y∈t.l.r.c,y∈s.l.r.c∨∃z∈l,z.place=y.place
theorem Mh {cs:List av}:∀y∈hZ cs a x,y∈cs∨y.place=a:=by
 induction cs with
 | nil=>intro y hy;exact .inr (by rw [List.mem_singleton.1 hy])
 | cons z l ih =>
  intro y hy
  unfold hZ at hy
  split at hy
  ·rename_i e
   rcases List.mem_cons.1 hy with g | g
   ·exact .inr (by rw [g])
   ·exact .inl (List.mem_cons_of_mem _ g)
  ·rcases List.mem_cons.1 hy with g | g
   ·exact .inl (by rw [g];exact List.mem_cons_self)
   ·rcases ih y g with g | g
    ·exact .inl (List.mem_cons_of_mem _ g)
    ·exact .inr g
theorem MN {s:jl}(h:jj s a=0):uA a=true:=by
 unfold jj at h
 split at h
 ·assumption
 ·cases h
theorem MP:∀{l:List av}{q:jl},(fK q l).2=0→(fK q l).1.up=q.up∧(fK q l).1.r.f=q.r.f∧(zW q.r.c→zW (fK q l).1.r.c)∧(zW q.r.c→∀h:Hp,sJ h (fK q l).1.r.c=sJ (sJ h q.r.c) l)∧∀y∈(fK q l).1.r.c,y∈q.r.c∨∃z∈l,z.place=y.place
 | [],q,_=>⟨rfl,rfl,id,fun _ _=>rfl,fun y hy=>.inl hy⟩
 | y::l,q,h0=>by
  unfold fK at h0 ⊢
  by_cases e:jj q y.place=0
  ·rw [if_pos e] at h0 ⊢
   obtain⟨h1,h2,h3,h4,h5⟩:=MP h0
   have ho:=MN e
   refine⟨h1,h2,fun g=>h3 (g.put ho),fun g h=>?_,fun z hz=>?_⟩
   ·rw [h4 (g.put ho) h]
    show sJ (sJ h (hZ q.r.c y.place y.word)) l=_
    rw [MY g ho];rfl
   ·rcases h5 z hz with g | ⟨w,hw,g⟩
    ·rcases Mh z g with g | g
     ·exact .inl g
     ·exact .inr ⟨y,List.mem_cons_self,g.symm⟩
    ·exact .inr ⟨w,List.mem_cons_of_mem _ hw,g⟩
  ·rw [if_neg e] at h0
   exact absurd h0 e
theorem C8 (h0:(fJ s l).2=0):Wr s (fJ s l).1 l:=by
 unfold fJ at h0 ⊢
 split at h0
 ·rename_i e
  rw [if_pos e]
  unfold lG at h0 ⊢
  split at h0
  ·rename_i e2
   rw [if_pos e2]
   obtain⟨h1,h2,h3,h4,h5⟩:=MP e2
   exact⟨rfl,rfl,h1,h2,h3,h4,h5⟩
  ·rename_i e2;exact absurd h0 e2
 ·cases h0
theorem Qi (h0:(j4 s a x).2=0):Wr s (j4 s a x).1 [⟨a,x⟩]:=by
 unfold j4 at h0 ⊢
 split at h0
 ·rename_i e
  rw [if_pos e]
  have e2:jj s.l a=0:=h0
  have ho:=MN e2
  have e3:(NG s.l a x).1=s.l.put a x:=if_pos e2
  rw [e3]
  exact⟨rfl,rfl,rfl,rfl,fun g=>g.put ho,fun g h=>MY g ho,fun y hy=>(Mh y hy).imp id fun g=>⟨_,List.mem_cons_self,g.symm⟩⟩
 ·cases h0
theorem Ag.wr (A:Ag h s)(w:Wr s t l):Ag h t∧kj h t=sJ (kj h s) l:=⟨⟨w.up.trans A.up,by rw [w.k];exact A.k,w.ok A.ok⟩,w.ap A.ok h⟩
theorem Ag.nd (A:Ag h s):Ag h (TJ s p):=⟨A.up,A.k,A.ok⟩
theorem JT:∀{l:List av}{q:jl},(fK q l).2≠11
 | [],_=>by unfold fK;simp
 | y::l,q=>by
  unfold fK
  split
  ·exact JT
  ·unfold jj;repeat' split
   all_goals simp
theorem A9:(fJ s l).2≠11:=by
 unfold fJ
 split
 ·show (lG s.l l).2≠11
  unfold lG
  split
  ·simp
  ·exact JT
 ·simp
theorem Om:(j4 s a x).2≠11:=by
 unfold j4
 split
 ·show jj s.l a≠11
  unfold jj;repeat' split
  all_goals simp
 ·simp
def qK (B sh:List Bk)(p:Int):Prop:=p<14∨(∃b∈sh,p=b.1-1∨p=b.1)∨∃b∈B,mT b p
variable {B R sh:List Bk}{fl:Int→List Int}
theorem Ed (h1:1≤c)(h4:c≤4):ir c=yE c:=by
 have:c=1∨c=2∨c=3∨c=4:=by omega
 rcases this with rfl | rfl | rfl | rfl <;> decide
theorem Dq (h1:1≤c)(h4:c≤4):gE c=c:=by
 have:gi (0+c)=0+c:=gh (by omega) (by omega)
 unfold gE;omega
structure S9 (g:Hp)(B R sh:List Bk)(c:Int)(s t:fa)(a:Int)(h:Hp):Prop where
 ag:Ag h t
 ar:∃sh' fl',db (kj h t) ((a,c)::B) R sh' fl'∧sh <+: sh'∧∀b∈sh',b∈sh∨b=(a,c)
 new:(a,c) ∉ B
 lo:15≤a∧a+1<256
 off:∀p,p=6∨p=7∨(∃b∈B,mT b p)→kj h t p=g p
 size:t.size=s.size
 f:t.l.r.f=s.l.r.f
 k:t.k=s.k
 pl:∀y∈t.l.r.c,y∈s.l.r.c∨y.place<14∨y.place=a-1
theorem Qs (A:Ag h s)(W:db (kj h s) B R sh fl)(hs:s.size≤256)(hc:gH n=c)(h1:1≤c)(h4:c≤4) :
  ((eF s n).2.2=11→∃p,(eF s n).1=TJ s p∧qK B sh p)∧((eF s n).2.2=0→S9 (kj h s) B R sh c s (eF s n).1 (eF s n).2.1 h):=by
 have hz:=gF (c:=c)
 have h5:=wQ W.parted
 have ht:=W.top
 obtain⟨f1,f2,f3⟩:=W.free c h1 h4
 unfold eF
 rw [hc,if_neg (by omega:¬c=0),Dq h1 h4]
 rcases A.read (a:=c) with e | e | e <;> rw [e] <;> dsimp only
 ·rw [if_pos rfl]
  by_cases e0:kj h s c=0
  ·rw [if_pos e0]
   unfold pJ
   rcases A.read (a:=5) with e | e | e <;> rw [e] <;> dsimp only
   ·rw [if_pos rfl,Ed h1 h4]
    generalize hp:kj h s 5=p at *
    have ep:gi p=p:=gh (by omega) (by omega)
    have ep1:gi (p+1)=p+1:=gh (by omega) (by omega)
    have ep2:gi (p+1+yE c)=p+1+yE c:=gh (by omega) (by omega)
    rw [ep,ep1,ep2]
    split
    ·exact⟨fun g=>(by cases g),fun g=>by cases g⟩
    ·rename_i g
     have g3:p+1+yE c≤s.size:=by omega
     have gc:rK p c=[⟨5,p+1+yE c⟩,⟨p,c+8⟩]:=by
      unfold rK
      rw [Ed h1 h4,ep,ep1,ep2,Sp (n:=c+8) (by omega) (by omega),Qh (by omega) (by omega),Qh (by omega) (by omega)]
     rw [gc]
     split
     ·rename_i g4
      refine⟨fun g=>(by cases g),fun _=>?_⟩
      have w:=C8 g4
      obtain⟨A2,e2⟩:=A.wr w
      obtain⟨n1,n2,n3⟩:=W.grown (c:=c) h1 h4 (by rw [hp];omega)
      rw [hp] at n1 n2 n3
      refine⟨A2,⟨_,_,by rw [e2];exact n3,List.prefix_append _ _,fun b hb=>(List.mem_append.1 hb).imp id List.mem_singleton.1⟩,fun hb=>n1 (W.sub _ hb),by dsimp only;omega,fun q hq=>?_,w.size,w.f,w.k,fun y hy=>?_⟩
      ·rw [e2]
       show eN (eN (kj h s) 5 _) p _ q=_
       have hq2:q≠5∧q≠p:=by
        rcases hq with g | g | ⟨b,hb,g⟩
        ·omega
        ·omega
        ·have hm:=W.mem (W.sub b hb)
         have:=n2 b (W.sub b hb)
         unfold mT at g
         omega
       rw [bv hq2.2,bv hq2.1]
      ·rcases w.pl y hy with g | ⟨z,hz,g⟩
       ·exact .inl g
       ·simp only [List.mem_cons,List.not_mem_nil,or_false] at hz
        rcases hz with rfl | rfl
        ·exact .inr (.inl (by rw [←g];simp))
        ·exact .inr (.inr (by rw [←g];simp))
     ·rename_i g4
      exact⟨fun g=>absurd g (A9),fun g=>absurd g g4⟩
   ·rw [if_neg (by decide)]
    exact⟨fun _=>⟨5,rfl,.inl (by decide)⟩,fun g=>by cases g⟩
   ·rw [if_neg (by decide)]
    exact⟨fun g=>(by cases g),fun g=>by cases g⟩
  ·rw [if_neg e0]
   obtain⟨ls,el,fl2⟩:=f1.ne0 e0
   generalize hb:kj h s c=b at *
   have hmem:=f3 b (by rw [el];exact List.mem_cons_self)
   have hm:=W.mem hmem.1
   simp only at hm
   unfold ql
   have eb:gi b=b:=gh (by omega) (by omega)
   rw [if_neg (by omega),eb]
   rcases A.read (a:=b) with e | e | e <;> rw [e] <;> dsimp only
   ·rw [if_pos rfl]
    have gc:([⟨gE c,kj h s b⟩,⟨gi (b-1),wU (gi (c+8))⟩]:List av)=[⟨c,kj h s b⟩,⟨b-1,c+8⟩]:=by
     rw [Dq h1 h4,Sp (n:=b-1) (by omega) (by omega),Sp (n:=c+8) (by omega) (by omega),Qh (by omega) (by omega)]
    rw [gc]
    split
    ·rename_i g4
     refine⟨fun g=>(by cases g),fun _=>?_⟩
     have w:=C8 g4
     obtain⟨A2,e2⟩:=A.wr w
     obtain⟨n1,n2,fl',n3⟩:=W.reuse (c:=c) h1 h4 hb e0
     refine⟨A2,⟨_,_,by rw [e2];exact n3,List.prefix_rfl,fun b hb=>.inl hb⟩,n2,by dsimp only;omega,fun q hq=>?_,w.size,w.f,w.k,fun y hy=>?_⟩
     ·rw [e2]
      show eN (eN (kj h s) c _) (b-1) _ q=_
      have hq2:q≠c∧q≠b-1:=by
       rcases hq with g | g | ⟨d,hd,g⟩
       ·omega
       ·omega
       ·have hm2:=W.mem (W.sub d hd)
        have:=W.head_body (W.sub d hd) n1 g
        unfold mT at g
        simp only at this
        omega
      rw [bv hq2.2,bv hq2.1]
     ·rcases w.pl y hy with g | ⟨z,hz,g⟩
      ·exact .inl g
      ·simp only [List.mem_cons,List.not_mem_nil,or_false] at hz
       rcases hz with rfl | rfl
       ·exact .inr (.inl (by rw [←g];simp only;omega))
       ·exact .inr (.inr (by rw [←g]))
    ·rename_i g4
     exact⟨fun g=>absurd g (A9),fun g=>absurd g g4⟩
   ·rw [if_neg (by decide)]
    exact⟨fun _=>⟨b,rfl,.inr (.inl ⟨_,hmem.1,.inr rfl⟩)⟩,fun g=>by cases g⟩
   ·rw [if_neg (by decide)]
    exact⟨fun g=>(by cases g),fun g=>by cases g⟩
 ·rw [if_neg (by decide)]
  exact⟨fun _=>⟨c,rfl,.inl (by omega)⟩,fun g=>by cases g⟩
 ·rw [if_neg (by decide)]
  exact⟨fun g=>(by cases g),fun g=>by cases g⟩
end
end Go.Proofs.YtoealglbimbbmaaGreatDoor.S
namespace Go.Proofs.YtoealglbimbbmaaGreatDoor.S
open Go Go.Proofs
set_option linter.unusedVariables false
set_option linter.unusedSimpArgs false
section
variable {h:Hp}{s t:fa}{a x p n c:Int}{l:List av}{B R sh:List Bk}{fl:Int→List Int}
theorem Kk (A:Ag h s)(W:db (kj h s) B R sh fl)(hb:(a,c)∈sh) :
  (gj s a=(s,c,decide ((a,c)∈B),0))∨(gj s a=(TJ s (a-1),0,false,11))∨((gj s a).2.2.2=2):=by
 have hm:=W.mem hb
 have hz:=gF (c:=c)
 dsimp only at hm
 unfold gj
 split
 ·exact .inr (.inr rfl)
 ·have e1:gi (a-1)=a-1:=gh (by omega) (by omega)
  rw [e1]
  rcases A.read (a:=a-1) with e | e | e <;> rw [e] <;> dsimp only
  ·rw [if_pos rfl]
   have hd:=W.hdr _ hb
   simp only at hd
   rw [hd]
   left
   by_cases g:(a,c)∈B
   ·have e2:md (c+8)=(c,true):=by
     unfold md;rw [if_neg (by omega),if_pos (by omega)];simp
    rw [if_pos g,e2]
    simp only
    rw [if_neg (by omega),decide_eq_true g]
   ·have e2:md c=(c,false):=by unfold md;rw [if_pos (by omega)]
    rw [if_neg g,e2]
    simp only
    rw [if_neg (by omega),decide_eq_false g]
  ·rw [if_neg (by decide)];exact .inr (.inl rfl)
  ·rw [if_neg (by decide)];exact .inr (.inr rfl)
theorem RV (A:Ag h s)(W:db (kj h s) B R sh fl)(hb:(a,c)∈B) :
  ((ig s a).2=11→(ig s a).1=TJ s (a-1))∧((ig s a).2=0→Ag h (ig s a).1∧kj h (ig s a).1=eN (kj h s) (a-1) c∧(ig s a).1.l.r.f=s.l.r.f++[a]∧(ig s a).1.size=s.size∧(ig s a).1.k=s.k∧∀y∈(ig s a).1.l.r.c,y∈s.l.r.c∨y.place=a-1):=by
 have hm:=W.mem (W.sub _ hb)
 have hz:=gF (c:=c)
 dsimp only at hm
 unfold ig
 rcases Kk A W (W.sub _ hb) with e | e | e
 ·rw [e,decide_eq_true hb]
  unfold tw
  dsimp only
  rw [if_pos rfl,if_pos rfl,Sp (n:=a-1) (by omega) (by omega),Qh (n:=c) (by omega) (by omega)]
  split
  ·rename_i g
   refine⟨fun g=>(by cases g),fun _=>?_⟩
   have w:=C8 g
   obtain⟨A2,e2⟩:=A.wr w
   refine⟨⟨A2.up,A2.k,A2.ok⟩,e2,?_,w.size,w.k,fun y hy=>?_⟩
   ·show (fJ s _).1.l.r.f++[a]=_
    rw [w.f]
   ·rcases w.pl y hy with g | ⟨z,hz,g⟩
    ·exact .inl g
    ·rw [List.mem_singleton.1 hz] at g;exact .inr g.symm
  ·rename_i g
   exact⟨fun g2=>absurd g2 A9,fun g2=>absurd g2 g⟩
 ·rw [e]
  unfold tw
  dsimp only
  rw [if_neg (by decide)]
  exact⟨fun _=>rfl,fun g=>by cases g⟩
 ·unfold tw
  rw [e,if_neg (by decide)]
  exact⟨fun g=>(by cases g),fun g=>by cases g⟩
theorem UM (A:Ag h s)(W:db (kj h s) B R sh fl)(hb:(a,c)∈sh)(hn:(a,c) ∉ B) :
  ((gY s a).2=11→∃p,(gY s a).1=TJ s p∧qK B sh p)∧((gY s a).2=0→Ag h (gY s a).1∧kj h (gY s a).1=eN (eN (kj h s) a (kj h s c)) c a∧(gY s a).1.l.r.f=s.l.r.f∧(gY s a).1.size=s.size∧(gY s a).1.k=s.k∧∀y∈(gY s a).1.l.r.c,y∈s.l.r.c∨y.place<14∨y.place=a):=by
 have hm:=W.mem hb
 have hz:=gF (c:=c)
 dsimp only at hm
 unfold gY
 rcases Kk A W hb with e | e | e
 ·rw [e,decide_eq_false hn]
  unfold sX
  dsimp only
  rw [if_pos rfl,if_neg (by decide),Dq (by omega) (by omega)]
  rcases A.read (a:=c) with e | e | e <;> rw [e] <;> dsimp only
  ·rw [if_pos rfl,Qh (n:=a) (by omega) (by omega)]
   refine⟨fun g=>absurd g A9,fun g=>?_⟩
   have w:=C8 g
   obtain⟨A2,e2⟩:=A.wr w
   refine⟨A2,e2,w.f,w.size,w.k,fun y hy=>?_⟩
   rcases w.pl y hy with g | ⟨z,hz,g⟩
   ·exact .inl g
   ·simp only [List.mem_cons,List.not_mem_nil,or_false] at hz
    rcases hz with rfl | rfl
    ·exact .inr (.inr g.symm)
    ·exact .inr (.inl (by rw [←g];simp only;omega))
  ·rw [if_neg (by decide)]
   exact⟨fun _=>⟨c,rfl,.inl (by omega)⟩,fun g=>by cases g⟩
  ·rw [if_neg (by decide)]
   exact⟨fun g=>(by cases g),fun g=>by cases g⟩
 ·rw [e]
  unfold sX
  dsimp only
  rw [if_neg (by decide)]
  exact⟨fun _=>⟨a-1,rfl,.inr (.inl ⟨_,hb,.inl rfl⟩)⟩,fun g=>by cases g⟩
 ·unfold sX
  rw [e,if_neg (by decide)]
  exact⟨fun g=>(by cases g),fun g=>by cases g⟩
theorem db.permR (W:db h B R sh fl){R':List Bk}(e:R.Perm R'):db h B R' sh fl:=⟨W.parted,W.top,W.sub,W.nodup,W.hdr,W.free,fun b hb=>W.rest b (e.mem_iff.2 hb),e.nodup_iff.1 W.rnd⟩
def PY (h:Hp):Int→List Bk→Prop
 | a,[]=>a=0
 | a,b::l=>a=b.1∧PY h (h b.1) l
theorem PY.frame {g:Hp}:∀{l:List Bk}{a:Int},PY h a l→(∀b∈l,g b.1=h b.1)→PY g a l
 | [],_,H,_=>H
 | b::l,a,H,e=>⟨H.1,by rw [e b List.mem_cons_self];exact PY.frame H.2 fun d hd=>e d (List.mem_cons_of_mem _ hd)⟩
structure I0 (h:Hp)(B R sh:List Bk)(fl:Int→List Int)(st:Int→List Bk):Prop where
 ar:db h B R sh fl
 stk:∀r,r=6∨r=7→PY h (h r) (st r)∧(st r).Nodup
 mem:∀b,b∈B↔b∈st 6∨b∈st 7
 dis:∀b∈st 6,b ∉ st 7
variable {st:Int→List Bk}
theorem I0.of (H:I0 h B R sh fl st){r:Int}(hr:r=6∨r=7){b:Bk}(hb:b∈st r):b∈B:=(H.mem b).2 (by rcases hr with rfl | rfl;exact .inl hb;exact .inr hb)
theorem I0.frame {g:Hp}{R' sh':List Bk}{fl':Int→List Int}(H:I0 h B R sh fl st)(W:db g B R' sh' fl')(e:∀p,p=6∨p=7∨(∃b∈B,mT b p)→g p=h p):I0 g B R' sh' fl' st:=by
 refine⟨W,fun r hr=>?_,H.mem,H.dis⟩
 obtain⟨k1,k2⟩:=H.stk r hr
 refine⟨?_,k2⟩
 rw [e r (by omega)]
 exact k1.frame fun b hb=>e _ (.inr (.inr ⟨b,H.of hr hb,rQ (H.of hr hb)⟩))
theorem I0.push {g g':Hp}{sh':List Bk}{fl':Int→List Int}{r:Int}(H:I0 h B R sh fl st)(hr:r=6∨r=7)(hn:(a,c) ∉ B)(W:db g ((a,c)::B) R sh' fl')(e:∀p,p=6∨p=7∨(∃b∈B,mT b p)→g p=h p)(ea:g a=h r)(hg:g'=eN g r a):I0 g' ((a,c)::B) R sh' fl' (fun r'=>if r'=r then (a,c)::st r' else st r'):=by
 have hm:=W.mem (W.sub _ List.mem_cons_self)
 simp only at hm
 have W':db g' ((a,c)::B) R sh' fl':=by rw [hg];exact W.upd_root (by omega) (by omega)
 have hne:∀b∈B,b.1≠r:=fun b hb=>by have:=W.mem (W.sub b (List.mem_cons_of_mem _ hb));omega
 have hB:∀b∈B,g' b.1=h b.1:=fun b hb=>by rw [hg,bv (hne b hb)];exact e _ (.inr (.inr ⟨b,hb,rQ hb⟩))
 have hga:g' a=h r:=by rw [hg,bv (by omega)];exact ea
 refine⟨W',fun r' hr'=>?_,fun b=>?_,fun b=>?_⟩
 ·obtain⟨k1,k2⟩:=H.stk r' hr'
  have kf:=k1.frame fun b hb=>hB b (H.of hr' hb)
  by_cases er:r'=r
  ·subst er
   rw [if_pos rfl,hg,gL,←hg]
   refine⟨⟨rfl,?_⟩,List.nodup_cons.2 ⟨fun hb=>hn (H.of hr' hb),k2⟩⟩
   rw [hga];exact kf
  ·rw [if_neg er]
   refine⟨?_,k2⟩
   have:g' r'=h r':=by rw [hg,bv er];exact e _ (by omega)
   rw [this];exact kf
 ·have:=H.mem b
  rcases hr with rfl | rfl
  ·simp only [if_true,List.mem_cons,this,show ¬((7:Int)=6) by decide,if_false,or_assoc]
  ·simp only [if_true,List.mem_cons,this,show ¬((6:Int)=7) by decide,if_false]
   constructor
   ·rintro(g | g | g)
    ·exact .inr (.inl g)
    ·exact .inl g
    ·exact .inr (.inr g)
   ·rintro(g | g | g)
    ·exact .inr (.inl g)
    ·exact .inl g
    ·exact .inr (.inr g)
 ·rcases hr with rfl | rfl
  ·simp only [if_true,show ¬((7:Int)=6) by decide,if_false]
   intro hb hb2
   rcases List.mem_cons.1 hb with g | g
   ·exact hn (H.of (.inr rfl) (g ▸ hb2))
   ·exact H.dis b g hb2
  ·simp only [if_true,show ¬((6:Int)=7) by decide,if_false]
   intro hb hb2
   rcases List.mem_cons.1 hb2 with g | g
   ·exact hn (H.of (.inl rfl) (g ▸ hb))
   ·exact H.dis b hb g
theorem I0.pop {r:Int}{b:Bk}{l:List Bk}(H:I0 h B R sh fl st)(hr:r=6∨r=7)(e:st r=b::l):∃B',B.Perm (b::B')∧I0 (eN (eN h r (h b.1)) (b.1-1) b.2) B' (b::R) sh fl (fun r'=>if r'=r then l else st r'):=by
 have hb:b∈B:=H.of hr (by rw [e];exact List.mem_cons_self)
 have hp:B.Perm (b::B.erase b):=List.perm_cons_erase hb
 have hm:=H.ar.mem (H.ar.sub b hb)
 have W1:db (eN h r (h b.1)) B R sh fl:=H.ar.upd_root (by omega) (by omega)
 have W2:db (eN h r (h b.1)) (b::B.erase b) R sh fl:=⟨W1.parted,W1.top,fun d hd=>W1.sub d (hp.mem_iff.2 hd),hp.nodup_iff.1 W1.nodup,fun d hd=>by rw [W1.hdr d hd];simp only [hp.mem_iff],fun c h1 h4=>⟨(W1.free c h1 h4).1,(W1.free c h1 h4).2.1,fun d hd=>⟨((W1.free c h1 h4).2.2 d hd).1,fun g=>((W1.free c h1 h4).2.2 d hd).2 (hp.mem_iff.2 g)⟩⟩,fun d hd=>⟨(W1.rest d hd).1,fun g=>(W1.rest d hd).2.1 (hp.mem_iff.2 g),(W1.rest d hd).2.2⟩,W1.rnd⟩
 have W3:db (eN (eN h r (h b.1)) (b.1-1) b.2) (B.erase b) (b::R) sh fl:=W2.rests
 have hnd:=List.nodup_cons.1 (hp.nodup_iff.1 H.ar.nodup)
 refine⟨B.erase b,hp,W3,fun r' hr'=>?_,fun d=>?_,fun d=>?_⟩
 ·obtain⟨k1,k2⟩:=H.stk r' hr'
  have hB:∀d∈B,eN (eN h r (h b.1)) (b.1-1) b.2 d.1=h d.1:=fun d hd=>by
   have:=H.ar.mem (H.ar.sub d hd)
   rw [bv (H.ar.head_body (H.ar.sub d hd) (H.ar.sub b hb) (rQ hd)),bv (by omega)]
  by_cases er:r'=r
  ·subst er
   simp only [if_pos]
   rw [e] at k1 k2
   rw [bv (by omega),gL]
   exact⟨k1.2.frame fun d hd=>hB d (H.of hr' (by rw [e];exact List.mem_cons_of_mem _ hd)),(List.nodup_cons.1 k2).2⟩
  ·simp only [if_neg er]
   refine⟨?_,k2⟩
   rw [bv (by omega),bv er]
   exact k1.frame fun d hd=>hB d (H.of hr' hd)
 ·have h1:=hp.mem_iff (a:=d)
  rw [List.mem_cons] at h1
  have h2:=H.mem d
  have hd1:=H.dis
  have hs:=fun r hr=>(H.stk r hr).2
  rcases hr with rfl | rfl
  ·simp only [if_true,show ¬((7:Int)=6) by decide,if_false]
   have k2:=hs 6 (.inl rfl)
   rw [e] at k2 h2 hd1
   have k2:=List.nodup_cons.1 k2
   constructor
   ·intro g
    rcases h2.1 (h1.2 (.inr g)) with g2 | g2
    ·rcases List.mem_cons.1 g2 with rfl | g2
     ·exact absurd g hnd.1
     ·exact .inl g2
    ·exact .inr g2
   ·intro g
    have:d∈B:=h2.2 (by rcases g with g | g;exact .inl (List.mem_cons_of_mem _ g);exact .inr g)
    rcases h1.1 this with rfl | g2
    ·rcases g with g | g
     ·exact absurd g k2.1
     ·exact absurd g (hd1 _ List.mem_cons_self)
    ·exact g2
  ·simp only [if_true,show ¬((6:Int)=7) by decide,if_false]
   have k2:=hs 7 (.inr rfl)
   rw [e] at k2 h2 hd1
   have k2:=List.nodup_cons.1 k2
   constructor
   ·intro g
    rcases h2.1 (h1.2 (.inr g)) with g2 | g2
    ·exact .inl g2
    ·rcases List.mem_cons.1 g2 with rfl | g2
     ·exact absurd g hnd.1
     ·exact .inr g2
   ·intro g
    have:d∈B:=h2.2 (by rcases g with g | g;exact .inl g;exact .inr (List.mem_cons_of_mem _ g))
    rcases h1.1 this with rfl | g2
    ·rcases g with g | g
     ·exact absurd List.mem_cons_self (hd1 _ g)
     ·exact absurd g k2.1
    ·exact g2
 ·have hd1:=H.dis
  rcases hr with rfl | rfl
  ·simp only [if_true,show ¬((7:Int)=6) by decide,if_false]
   rw [e] at hd1
   exact fun g=>hd1 d (List.mem_cons_of_mem _ g)
  ·simp only [if_true,show ¬((6:Int)=7) by decide,if_false]
   rw [e] at hd1
   exact fun g g2=>hd1 d g (List.mem_cons_of_mem _ g2)
end
section
variable {h:Hp}{x:dw}{s t:fa}{a b c p r n v:Int}{l:List av}{B R sh:List Bk}{fl:Int→List Int}{st:Int→List Bk}
abbrev dw.nx (x:dw):dw:={ x with next:=x.pos+1 }
theorem pU (hi:x.ins=⟨8,a,b,c,0⟩)(hp:dA (x.r.get (m8 b)) c=(p,0))(A:Ag h s) :
  dZ x s=(xx x.nx (m8 a) (kj h s p),s,0)∨dZ x s=(x.nx,TJ s p,11)∨(dZ x s).2.2=2:=by
 unfold dZ
 rw [hi]
 have e:qM x.nx s ⟨8,a,b,c,0⟩=gV x.nx s ⟨8,a,b,c,0⟩:=by simp [qM]
 show qM x.nx s _=_∨qM x.nx s _=_∨(qM x.nx s _).2.2=_
 rw [e]
 have hp':dA (x.nx.r.get (m8 b)) c=(p,0):=hp
 unfold gV
 rw [if_pos rfl]
 dsimp only
 rw [hp',if_neg (by simp)]
 rcases A.read (a:=p) with e | e | e <;> rw [e]
 ·rw [if_pos rfl];exact .inl rfl
 ·rw [if_neg (by simp)];exact .inr (.inl rfl)
 ·rw [if_neg (by simp)];exact .inr (.inr rfl)
theorem wZ (hi:x.ins=⟨9,a,b,c,0⟩)(hp:dA (x.r.get (m8 a)) c=(p,0)) :
  (∃t,dZ x s=(x.nx,t,0)∧Wr s t [⟨p,x.r.get (m8 b)⟩])∨((dZ x s).2.2≠0∧(dZ x s).2.2≠11):=by
 unfold dZ
 rw [hi]
 have e:qM x.nx s ⟨9,a,b,c,0⟩=gV x.nx s ⟨9,a,b,c,0⟩:=by simp [qM]
 show (∃t,qM x.nx s _=_∧_)∨((qM x.nx s _).2.2≠0∧(qM x.nx s _).2.2≠11)
 rw [e]
 have hp':dA (x.nx.r.get (m8 a)) c=(p,0):=hp
 unfold gV
 rw [if_neg (by simp),if_pos rfl]
 dsimp only
 rw [hp',if_neg (by simp)]
 dsimp only
 by_cases g:(j4 s p (x.r.get (m8 b))).2=0
 ·left
  exact⟨_,by rw [g],Qi g⟩
 ·right
  exact⟨g,Om⟩
theorem IW (hi:x.ins=⟨1,a,0,0,n⟩):dZ x s=(xx x.nx (m8 a) n,s,0):=by
 unfold dZ;rw [hi];simp [qM]
theorem Rs (hi:x.ins=⟨3,a,b,c,0⟩):dZ x s=(xx x.nx (m8 a) (IntKind.wrap .u64 (x.r.get (m8 b)+x.r.get (m8 c))),s,0):=by
 unfold dZ;rw [hi];simp [qM]
theorem PX (hi:x.ins=⟨12,0,0,c,0⟩):dZ x s=({ x with next:=c },s,0):=by
 unfold dZ;rw [hi];simp [qM]
theorem I3 (hi:x.ins=⟨13,a,0,c,0⟩):dZ x s=(if x.r.get (m8 a)=0 then { x with next:=c } else x.nx,s,0):=by
 unfold dZ;rw [hi];simp [qM]
theorem KB (hi:x.ins=⟨21,a,0,0,0⟩):(∃y,dZ x s=(y,s,0)∧y.prog=x.prog∧y.fin=x.fin∧y.bad=x.bad∧y.r=x.r∧y.next=x.pos+1)∨((dZ x s).2.2≠0∧(dZ x s).2.2≠11):=by
 unfold dZ
 rw [hi]
 by_cases g:x.items.length<16
 ·left
  exact⟨{ x.nx with items:=x.items++[.num (x.r.get (m8 a))] },by simp [qM,g],rfl,rfl,rfl,rfl,rfl⟩
 ·right
  simp [qM,g]
theorem NX (hi:x.ins=⟨10,a,b,0,0⟩)(hn:x.r.get (m8 b)=n)(h0:0≤n∧n≤1000) :
  ((eF s n).2.2=0→dZ x s=(xx x.nx (m8 a) (wU (eF s n).2.1),(eF s n).1,0))∧((eF s n).2.2≠0→dZ x s=(x.nx,(eF s n).1,(eF s n).2.2)):=by
 have e:qM x.nx s ⟨10,a,b,0,0⟩=gV x.nx s ⟨10,a,b,0,0⟩:=by simp [qM]
 have es:dZ x s=gV x.nx s ⟨10,a,b,0,0⟩:=by unfold dZ;rw [hi];exact e
 have hn':x.nx.r.get (m8 b)=n:=hn
 rw [es]
 unfold gV
 dsimp only
 rw [if_neg (by decide),if_neg (by decide),if_pos rfl,hn',if_neg (by omega),show gi n=n from gh (by omega) (by omega)]
 exact⟨fun g=>if_pos g,fun g=>if_neg g⟩
theorem Qu (hi:x.ins=⟨11,a,0,0,0⟩)(hn:x.r.get (m8 a)=n)(h0:0≤n∧n≤1000):dZ x s=(x.nx,(ig s n).1,(ig s n).2):=by
 have e:qM x.nx s ⟨11,a,0,0,0⟩=gV x.nx s ⟨11,a,0,0,0⟩:=by simp [qM]
 have es:dZ x s=gV x.nx s ⟨11,a,0,0,0⟩:=by unfold dZ;rw [hi];exact e
 have hn':x.nx.r.get (m8 a)=n:=hn
 rw [es]
 unfold gV
 dsimp only
 rw [if_neg (by decide),if_neg (by decide),if_neg (by decide),hn',if_neg (by omega),show gi n=n from gh (by omega) (by omega)]
theorem Q1 {J:dw→fa→Prop}{N:Int→Prop}{E:fa→Prop}(h0:∀x s,J x s→x.fin=0∧x.bad=0)(hE:∀x s,J x s→x.pos=x.prog.length→E s)
  (hS:∀x s,J x s→x.pos≠x.prog.length→((dZ x s).2.2=0→J (dZ x s).1.on (dZ x s).2.1)∧((dZ x s).2.2=11→J (dZ x s).1 (dZ x s).2.1∧N (dZ x s).2.1.need)) :
  ∀(n:Nat) (x:dw) (s:fa),J x s→((fz n x s).2.2=1→J (fz n x s).1 (fz n x s).2.1∧N (fz n x s).2.1.need)∧((fz n x s).2.2=2→E (fz n x s).2.1):=by
 intro n
 induction n with
 | zero =>
  intro x s hJ
  have:=h0 x s hJ
  refine⟨fun g=>?_,fun g=>?_⟩
  ·have g:x.fin=1:=g
   omega
  ·have g:x.fin=2:=g
   omega
 | succ n ih =>
  intro x s hJ
  obtain⟨f0,b0⟩:=h0 x s hJ
  rw [fz,if_neg (fun g=>g f0)]
  by_cases c1:x.pos=x.prog.length
  ·rw [if_pos c1]
   exact⟨fun g=>(by cases g),fun _=>hE x s hJ c1⟩
  rw [if_neg c1]
  by_cases c2:x.left=0
  ·rw [if_pos c2]
   exact⟨fun g=>(by cases g),fun g=>(by cases g)⟩
  rw [if_neg c2]
  obtain⟨s1,s2⟩:=hS x s hJ c1
  by_cases c3:(dZ x s).2.2=0
  ·rw [if_pos c3];exact ih _ _ (s1 c3)
  rw [if_neg c3]
  by_cases c4:(dZ x s).2.2=11
  ·rw [if_pos c4];exact⟨fun _=>s2 c4,fun g=>(by cases g)⟩
  ·rw [if_neg c4];exact⟨fun g=>(by cases g),fun g=>(by cases g)⟩
abbrev GH (r n v:Int):List dv:=[⟨1,0,0,0,n⟩,⟨10,1,0,0,0⟩,⟨8,2,7,r,0⟩,⟨9,1,2,0,0⟩,⟨1,3,0,0,v⟩,⟨9,1,3,1,0⟩,⟨9,7,1,r,0⟩]
abbrev NZ (r:Int):List dv:=[⟨8,0,7,r,0⟩,⟨13,0,0,7,0⟩,⟨8,1,0,0,0⟩,⟨8,2,0,1,0⟩,⟨9,7,1,r,0⟩,⟨11,0,0,0,0⟩,⟨21,2,0,0,0⟩]
abbrev GN (r:Int):List dv:=[⟨1,1,0,0,1⟩,⟨8,0,7,r,0⟩,⟨13,0,0,7,0⟩,⟨3,2,2,1,0⟩,⟨8,3,0,1,0⟩,⟨8,0,0,0,0⟩,⟨12,0,0,2,0⟩,⟨21,2,0,0,0⟩]
structure KM (h:Hp)(B R sh:List Bk)(fs gs:List Int)(cs:List av):Prop where
 ex:∃B' R' sh' fl' st',I0 (sJ h cs) B' R' sh' fl' st'∧sh <+: sh'∧(∀b,b∈R'↔(b∈R∧b.1 ∉ gs)∨(b∈B∧b.1∈fs))∧(∀b∈sh',b ∉ B'→b ∉ R'→(b∈sh∧b ∉ B∧b ∉ R)∨b.1∈gs)∧(∀y∈cs,qK B' sh' y.place)∧(∀n∈fs,∃c,(n,c)∈B)∧(∀b∈B,b∈B'∨b.1∈fs)∧(∀n∈fs,∃y∈cs,y.place=n-1)∧fs.length≤1
structure Cm (p:List dv)(h:Hp)(x:dw)(s:fa):Prop where
 prog:x.prog=p
 fin:x.fin=0
 bad:x.bad=0
 r7:x.r.r7=0
 ag:Ag h s
 sz:s.size≤256
theorem C5 (hr:r=6∨r=7):dA 0 r=(r,0):=by rcases hr with rfl | rfl <;> decide
theorem GI (h1:15≤a)(h2:a+1<256)(hc:0≤c)(hc1:c≤1):dA a c=(a+c,0):=by
 have e1:gi a=a:=gh (by omega) (by omega)
 have e2:gi (a+c)=a+c:=gh (by omega) (by omega)
 unfold dA Mr
 rw [e1,e2,if_neg (by omega)]
theorem qK.body {b:Bk}(hb:b∈B)(hp:mT b p):qK B sh p:=.inr (.inr ⟨b,hb,hp⟩)
theorem qK.mono {B' sh':List Bk}(h1:∀b∈B,b∈B')(h2:∀b∈sh,b∈sh')(h:qK B sh p):qK B' sh' p:=by
 rcases h with g | ⟨b,hb,g⟩ | ⟨b,hb,g⟩
 ·exact .inl g
 ·exact .inr (.inl ⟨b,h2 b hb,g⟩)
 ·exact .inr (.inr ⟨b,h1 b hb,g⟩)
structure Al (h g:Hp)(B R sh:List Bk)(c a:Int)(sh':List Bk)(fl':Int→List Int)(cs:List av):Prop where
 ar:db g ((a,c)::B) R sh' fl'
 pre:sh <+: sh'
 mem:∀b∈sh',b∈sh∨b=(a,c)
 new:(a,c) ∉ B
 lo:15≤a∧a+1<256
 off:∀p,p=6∨p=7∨(∃b∈B,mT b p)→g p=h p
 pl:∀y∈cs,qK ((a,c)::B) sh' y.place
theorem Al.put {g g':Hp}{sh':List Bk}{fl':Int→List Int}{cs cs':List av}{y:Int}(H:Al h g B R sh c a sh' fl' cs)(hp:mT (a,c) p)(eg:g'=eN g p y)(hc:∀z∈cs',z∈cs∨z.place=p):Al h g' B R sh c a sh' fl' cs':=by
 have hs:=H.ar.sub _ List.mem_cons_self
 refine⟨by rw [eg];exact H.ar.upd_body List.mem_cons_self hp,H.pre,H.mem,H.new,H.lo,fun q hq=>?_,fun z hz=>?_⟩
 ·rw [eg,bv ?_]
  ·exact H.off q hq
  ·intro e
   subst e
   have hb:=hp
   unfold mT at hb
   simp only at hb
   have:=H.lo
   rcases hq with g | g | ⟨b,hb2,g⟩
   ·omega
   ·omega
   ·have:=H.ar.body hs (H.ar.sub b (List.mem_cons_of_mem _ hb2)) hp g
    subst this
    exact H.new hb2
 ·rcases hc z hz with g | g
  ·exact H.pl z g
  ·rw [g];exact .body List.mem_cons_self hp
structure L2 (r n v c:Int)(h:Hp)(B R sh:List Bk)(x:dw)(s:fa):Prop where
 cm:Cm (GH r n v) h x s
 fs:s.l.r.f=[]
 at_:(s.l.r.c=[]∧(x.pos=0∨(x.pos=1∧x.r.r0=n)))∨(∃a sh' fl',Al h (kj h s) B R sh c a sh' fl' s.l.r.c∧x.r.r1=a∧(x.pos=2∨(x.pos=3∧x.r.r2=h r)∨((x.pos=4∨x.pos=5∨x.pos=6)∧kj h s a=h r)))∨(x.pos=7∧KM h B R sh [] [] s.l.r.c)
theorem P3 (H:I0 h B R sh fl st)(hr:r=6∨r=7)(hn:0≤n∧n≤1000)(hc:gH n=c)(h1:1≤c)(h4:c≤4){k:Nat}(hJ:L2 r n v c h B R sh x s) :
  ((fz k x s).2.2=1→L2 r n v c h B R sh (fz k x s).1 (fz k x s).2.1∧qK B sh (fz k x s).2.1.need)∧((fz k x s).2.2=2→(fz k x s).2.1.l.up=[]∧KM h B R sh (fz k x s).2.1.l.r.f [] (fz k x s).2.1.l.r.c):=by
 refine Q1 (N:=qK B sh) (E:=fun s=>s.l.up=[]∧KM h B R sh s.l.r.f [] s.l.r.c) (J:=L2 r n v c h B R sh) (fun x s g=>⟨g.cm.fin,g.cm.bad⟩) (fun x s g e=>?_) (fun x s g e=>?_) k x s hJ
 ·rw [g.cm.prog] at e
  have e:x.pos=7:=e
  rcases g.at_ with ⟨_,q⟩ | ⟨a,sh',fl',_,_,q⟩ | ⟨_,q⟩
  ·omega
  ·omega
  ·rw [g.fs];exact⟨g.cm.ag.up,q⟩
 obtain⟨⟨cp,cf,cb,c7,ca,cz⟩,fs,at_⟩:=g
 rw [cp] at e
 have e:x.pos≠7:=e
 rcases at_ with ⟨ec,q⟩ | ⟨a,sh',fl',hA,e1,q⟩ | ⟨q,_⟩
 ·have eh:kj h s=h:=by unfold kj;rw [ec];rfl
  rcases q with q | ⟨q,q0⟩
  ·have hi:x.ins=⟨1,0,0,0,n⟩:=by unfold dw.ins;rw [cp,q];rfl
   rw [IW hi]
   refine⟨fun _=>⟨⟨cp,cf,cb,c7,ca,cz⟩,fs,.inl ⟨ec,.inr ⟨?_,rfl⟩⟩⟩,fun g=>by cases g⟩
   show x.pos+1=1;omega
  ·have hi:x.ins=⟨10,1,0,0,0⟩:=by unfold dw.ins;rw [cp,q];rfl
   obtain⟨g1,g2⟩:=NX (s:=s) hi (show x.r.get (m8 0)=n from q0) hn
   obtain⟨a1,a2⟩:=Qs (n:=n) (c:=c) ca (by rw [eh];exact H.ar) cz hc h1 h4
   by_cases g0:(eF s n).2.2=0
   ·rw [g1 g0]
    have hR:=a2 g0
    obtain⟨sh',fl',w1,w2,w3⟩:=hR.ar
    have ha:wU (eF s n).2.1=(eF s n).2.1:=by have:=hR.lo;exact CI (by omega) (by omega)
    refine⟨fun _=>⟨⟨cp,cf,cb,c7,hR.ag,by rw [hR.size];exact cz⟩,hR.f.trans fs,.inr (.inl ⟨(eF s n).2.1,sh',fl',⟨w1,w2,w3,hR.new,hR.lo,fun p hp=>by rw [hR.off p hp,eh],fun y hy=>?_⟩,ha,.inl ?_⟩)⟩,fun g=>by cases g⟩
    ·rcases hR.pl y hy with g | g | g
     ·rw [ec] at g;cases g
     ·exact .inl g
     ·exact .inr (.inl ⟨_,w1.sub _ List.mem_cons_self,.inl g⟩)
    ·show x.pos+1=2;omega
   ·rw [g2 g0]
    refine⟨fun g=>absurd g g0,fun g=>?_⟩
    obtain⟨p,e1,e2⟩:=a1 g
    rw [e1]
    exact⟨⟨⟨cp,cf,cb,c7,ca.nd,cz⟩,fs,.inl ⟨ec,.inr ⟨q,q0⟩⟩⟩,e2⟩
 ·rcases q with q | ⟨q,q2⟩ | ⟨q,q2⟩
  ·have hi:x.ins=⟨8,2,7,r,0⟩:=by unfold dw.ins;rw [cp,q];rfl
   rcases pU (s:=s) hi (show dA x.r.r7 r=(r,0) by rw [c7];exact C5 hr) ca with e | e | e
   ·rw [e]
    refine⟨fun _=>⟨⟨cp,cf,cb,c7,ca,cz⟩,fs,.inr (.inl ⟨a,sh',fl',hA,e1,.inr (.inl ⟨?_,?_⟩)⟩)⟩,fun g=>by cases g⟩
    ·show x.pos+1=3;omega
    ·exact hA.off r (by omega)
   ·rw [e]
    exact⟨fun g=>(by cases g),fun _=>⟨⟨⟨cp,cf,cb,c7,ca.nd,cz⟩,fs,.inr (.inl ⟨a,sh',fl',hA,e1,.inl q⟩)⟩,.inl (by show r<14;omega)⟩⟩
   ·exact⟨fun g=>(by omega),fun g=>by omega⟩
  ·have hi:x.ins=⟨9,1,2,0,0⟩:=by unfold dw.ins;rw [cp,q];rfl
   rcases wZ (s:=s) hi (show dA x.r.r1 0=(a,0) by rw [e1,GI hA.lo.1 hA.lo.2 (by decide) (by decide),Int.add_zero]) with ⟨t,e,w⟩ | e
   ·rw [e]
    have w:Wr s t [⟨a,h r⟩]:=by have w':Wr s t [⟨a,x.r.r2⟩]:=w;rw [q2] at w';exact w'
    obtain⟨A2,e2⟩:=ca.wr w
    have e3:kj h t=eN (kj h s) a (h r):=e2
    refine⟨fun _=>⟨⟨cp,cf,cb,c7,A2,by rw [w.size];exact cz⟩,w.f.trans fs,.inr (.inl ⟨a,sh',fl',hA.put (pT (a:=a) (c:=c)) e3 fun z hz=>?_,e1,.inr (.inr ⟨.inl ?_,?_⟩)⟩)⟩,fun g=>by cases g⟩
    ·rcases w.pl z hz with g | ⟨y,hy,g⟩
     ·exact .inl g
     ·rw [List.mem_singleton.1 hy] at g;exact .inr g.symm
    ·show x.pos+1=4;omega
    ·rw [e3,gL]
   ·exact⟨fun g=>absurd g e.1,fun g=>absurd g e.2⟩
  ·rcases q with q | q | q
   ·have hi:x.ins=⟨1,3,0,0,v⟩:=by unfold dw.ins;rw [cp,q];rfl
    rw [IW hi]
    refine⟨fun _=>⟨⟨cp,cf,cb,c7,ca,cz⟩,fs,.inr (.inl ⟨a,sh',fl',hA,e1,.inr (.inr ⟨.inr (.inl ?_),q2⟩)⟩)⟩,fun g=>by cases g⟩
    show x.pos+1=5;omega
   ·have hi:x.ins=⟨9,1,3,1,0⟩:=by unfold dw.ins;rw [cp,q];rfl
    rcases wZ (s:=s) hi (show dA x.r.r1 1=(a+1,0) by rw [e1,GI hA.lo.1 hA.lo.2 (by decide) (by decide)]) with ⟨t,e,w⟩ | e
    ·rw [e]
     obtain⟨A2,e2⟩:=ca.wr w
     have e3:kj h t=eN (kj h s) (a+1) (x.r.get (m8 3)):=e2
     have hb:mT (a,c) (a+1):=by have:=gF (c:=c);unfold mT;simp only;omega
     refine⟨fun _=>⟨⟨cp,cf,cb,c7,A2,by rw [w.size];exact cz⟩,w.f.trans fs,.inr (.inl ⟨a,sh',fl',hA.put hb e3 fun z hz=>?_,e1,.inr (.inr ⟨.inr (.inr ?_),?_⟩)⟩)⟩,fun g=>by cases g⟩
     ·rcases w.pl z hz with g | ⟨y,hy,g⟩
      ·exact .inl g
      ·rw [List.mem_singleton.1 hy] at g;exact .inr g.symm
     ·show x.pos+1=6;omega
     ·rw [e3,bv (by omega)];exact q2
    ·exact⟨fun g=>absurd g e.1,fun g=>absurd g e.2⟩
   ·have hi:x.ins=⟨9,7,1,r,0⟩:=by unfold dw.ins;rw [cp,q];rfl
    rcases wZ (s:=s) hi (show dA x.r.r7 r=(r,0) by rw [c7];exact C5 hr) with ⟨t,e,w⟩ | e
    ·rw [e]
     have w:Wr s t [⟨r,a⟩]:=by have w':Wr s t [⟨r,x.r.r1⟩]:=w;rw [e1] at w';exact w'
     obtain⟨A2,e2⟩:=ca.wr w
     have e3:kj h t=eN (kj h s) r a:=e2
     have hS:=H.push hr hA.new hA.ar hA.off q2 e3
     refine⟨fun _=>⟨⟨cp,cf,cb,c7,A2,by rw [w.size];exact cz⟩,w.f.trans fs,.inr (.inr ⟨by show x.pos+1=7;omega,⟨_,_,_,_,_,hS,hA.pre,fun b=>by simp,fun b hb h2 h3=>?_,fun y hy=>?_,fun n hn=>(by cases hn),fun b hb=>.inl (List.mem_cons_of_mem _ hb),fun n hn=>(by cases hn),by simp⟩⟩)⟩,fun g=>by cases g⟩
     ·left
      refine⟨?_,fun g=>h2 (List.mem_cons_of_mem _ g),h3⟩
      rcases hA.mem b hb with g | g
      ·exact g
      ·exact absurd (by rw [g];exact List.mem_cons_self) h2
     ·rcases w.pl y hy with g | ⟨z,hz,g⟩
      ·exact hA.pl y g
      ·rw [List.mem_singleton.1 hz] at g;exact .inl (by rw [←g];show r<14;omega)
    ·exact⟨fun g=>absurd g e.1,fun g=>absurd g e.2⟩
 ·omega
end
end Go.Proofs.YtoealglbimbbmaaGreatDoor.S
