import Derived.Test.YtoealglbimbbmaaGreatDoorOPr
namespace Go.Proofs.YtoealglbimbbmaaGreatDoor.S
open Go Go.Proofs
set_option linter.unusedVariables false
set_option linter.unusedSimpArgs false
abbrev TZ:bu:=⟨0,0,0,0,0⟩
abbrev dc (p:List bu)(k:Nat):bu:=p.getD k TZ
section
variable {p:List bu}{k n:Nat}
theorem iB:ch p (k+1)=gl (ch p k) k (dc p k).op:=rfl
theorem nO:∀{k:Nat},∀i∈ch p k,0≤i∧i<k∧(fz (dc p i.toNat).op=true∨(dc p i.toNat).op=18)
 | 0,i,h=>by cases h
 | k+1,i,h=>by
  rw [iB] at h
  unfold gl at h
  have hold:i∈ch p k→0≤i∧i<((k+1:Nat):Int)∧(fz (dc p i.toNat).op=true∨(dc p i.toNat).op=18):=fun g=>by have:=nO i g;exact⟨this.1,by omega,this.2.2⟩
  have ht:i∈(if 0<fq (dc p k).op then (ch p k).tail else ch p k)→i∈ch p k:=fun g=>by
   split at g
   ·exact List.mem_of_mem_tail g
   ·exact g
  split at h
  ·rename_i c
   rcases List.mem_cons.1 h with e | h
   ·subst e
    refine⟨by omega,by omega,?_⟩
    simp only [Bool.or_eq_true,decide_eq_true_eq] at c
    simpa using c
   ·exact hold (ht h)
  ·exact hold (ht h)
theorem FN:∀{k:Nat}{j:Int}{r:List Int},(j::r) <:+ ch p k→ch p (j.toNat+1)=j::r
 | 0,j,r,h=>by
  have:=List.IsSuffix.length_le h
  simp [ch] at this
 | k+1,j,r,h=>by
  rw [iB] at h
  unfold gl at h
  have hold:(j::r) <:+ ch p k→ch p (j.toNat+1)=j::r:=fun g=>FN g
  have ht:(j::r) <:+ (if 0<fq (dc p k).op then (ch p k).tail else ch p k)→(j::r) <:+ ch p k:=fun g=>by
   split at g
   ·exact g.trans (List.tail_suffix _)
   ·exact g
  split at h
  ·rename_i c
   rcases List.suffix_cons_iff.1 h with e | h
   ·cases e
    have e2:((k:Int).toNat)=k:=by omega
    rw [e2,iB]
    unfold gl
    rw [if_pos c]
   ·exact hold (ht h)
  ·exact hold (ht h)
theorem AK {j:Int}{r:List Int}(h:ch p k=j::r):ch p (j.toNat+1)=j::r:=FN (k:=k) (by rw [h];exact List.suffix_refl _)
theorem O3 {m:Nat}(h:fu (ch p k)=fu (ch p m)):ch p k=ch p m:=by
 cases h1:ch p k with
 | nil =>
  cases h2:ch p m with
  | nil=>rfl
  | cons j r =>
   rw [h1,h2] at h
   have:=(nO j (by rw [h2];simp)).1
   have h:(-1:Int)=j:=h
   omega
 | cons i q =>
  cases h2:ch p m with
  | nil =>
   rw [h1,h2] at h
   have:=(nO i (by rw [h1];simp)).1
   have h:i=(-1:Int):=h
   omega
  | cons j r =>
   rw [h1,h2] at h
   have h:i=j:=h
   subst h
   have e1:=AK h1
   rw [AK h2] at e1
   exact e1.symm
theorem JX:∀{k:Nat},(ch p k).length≤k
 | 0=>Nat.le_refl _
 | k+1=>by
  have:=@JX k
  rw [iB]
  unfold gl
  split <;> split <;> simp <;> omega
structure sP (p:List bu):Prop where
 len:0<p.length∧p.length≤40
 wrong:∀k,k<p.length→ia p (ch p k) (dc p k)=0
 shut:ch p p.length=[]
 jump:∀k,k<p.length→nV p k (dc p k)=false
theorem Br:∀{n:Nat},fh p n=0→∀k,k<n→ia p (ch p k) (dc p k)=0
 | 0,_,k,h=>by omega
 | n+1,h,k,hk=>by
  unfold fh at h
  by_cases c:fh p n=0
  ·rw [if_neg (fun g=>g c)] at h
   by_cases e:k=n
   ·subst e;exact h
   ·exact Br c k (by omega)
  ·rw [if_pos c] at h;exact absurd h c
theorem A8:∀{n:Nat},nK p n=false→∀k,k<n→nV p k (dc p k)=false
 | 0,_,k,h=>by omega
 | n+1,h,k,hk=>by
  unfold nK at h
  rw [Bool.or_eq_false_iff] at h
  by_cases e:k=n
  ·subst e;exact h.2
  ·exact A8 h.1 k (by omega)
theorem qe (h:Ak p=0):sP p:=by
 unfold Ak at h
 split at h
 ·cases h
 ·rename_i c1
  split at h
  ·rename_i c;exact absurd h c
  ·rename_i c2
   split at h
   ·cases h
   ·rename_i c3
    split at h
    ·cases h
    ·rename_i c4
     exact⟨by omega,Br (by simpa using c2),by simpa using c3,A8 (by simpa using c4)⟩
theorem sP.may (h:sP p)(hk:k<p.length):F5 (dc p k)=true:=by
 have:=h.wrong k hk
 unfold ia at this
 split at this
 ·cases this
 ·rename_i c;simpa using c
theorem sP.ends (h:sP p)(hk:k<p.length)(he:0<fq (dc p k).op):Jt p (ch p k)=fq (dc p k).op:=by
 have:=h.wrong k hk
 unfold ia at this
 split at this
 ·cases this
 ·split at this
  ·cases this
  ·rename_i c;by_cases e:Jt p (ch p k)=fq (dc p k).op
   ·exact e
   ·exact absurd ⟨he,e⟩ c
theorem sP.undo (h:sP p)(hk:k<p.length)(he:(dc p k).op=16):Jt p (ch p k)=14:=by
 have:=h.wrong k hk
 unfold ia at this
 split at this
 ·cases this
 ·split at this
  ·cases this
  ·split at this
   ·cases this
   ·rename_i c;by_cases e:Jt p (ch p k)=14
    ·exact e
    ·exact absurd ⟨he,e⟩ c
theorem Ex {s:List Int}(h:Jt p s≠0):∃j r,s=j::r∧(dc p j.toNat).op=Jt p s:=by
 cases s with
 | nil=>exact absurd rfl h
 | cons j r=>exact⟨j,r,rfl,rfl⟩
theorem sP.jumps (h:sP p)(hk:k<p.length)(hj:(dc p k).op=12∨(dc p k).op=13)(h0:0≤(dc p k).c):(dc p k).c≤p.length∧ch p (dc p k).c.toNat=ch p k:=by
 have:=h.jump k hk
 unfold nV at this
 have hjp:Ag (dc p k).op=true:=by unfold Ag;rcases hj with g | g <;> rw [g] <;> rfl
 rw [hjp] at this
 simp only [Bool.true_and,Bool.or_eq_false_iff,decide_eq_false_iff_not,Bool.and_eq_false_iff,Int.not_lt] at this
 obtain⟨⟨h1,h2⟩,h3⟩:=this
 refine⟨h1,?_⟩
 have hreg:∀m,m<p.length→(cj p).getD m 0=fu (ch p m):=fun m hm=>by
  unfold cj
  rw [List.getD_eq_getElem?_getD,List.getElem?_map,List.getElem?_range hm];rfl
 by_cases e:(dc p k).c=p.length
 ·rcases h2 with g | g
  ·exact absurd e g
  ·rw [hreg k hk] at g
   have e2:(dc p k).c.toNat=p.length:=by omega
   rw [e2,h.shut]
   cases hs:ch p k with
   | nil=>rfl
   | cons j r =>
    rw [hs] at g
    have:=(nO j (by rw [hs];simp)).1
    have g:¬(j≠-1):=g
    omega
 ·have hlt:(dc p k).c.toNat<p.length:=by omega
  rcases h3 with g | g
  ·omega
  ·rw [hreg _ hlt,hreg k hk] at g
   exact O3 (by simpa using g)
theorem CU (hk:k<p.length):(cj p).getD k 0=fu (ch p k):=by
 unfold cj
 rw [List.getD_eq_getElem?_getD,List.getElem?_map,List.getElem?_range hk];rfl
theorem Ft:∀{k:Nat},(mv p k).length=p.length
 | 0=>by simp [mv]
 | k+1=>by unfold mv;split <;> simp [Ft]
theorem CH:∀{k:Nat},(i8 p k).length=p.length
 | 0=>Ft
 | k+1=>by unfold i8;split <;> simp [CH]
def sd (p:List bu)(j e:Nat):Prop:=e<p.length∧0<fq (dc p e).op∧∃r,ch p e=(j:Int)::r
theorem Mt (h:sP p):∀{k:Nat},k≤p.length→∀j,j<p.length→((mv p k).getD j 0=-1∧∀e,e<k→¬sd p j e)∨∃e:Nat,(mv p k).getD j 0=e∧sd p j e
 | 0,_,j,hj=>by
  left
  refine⟨?_,fun e he=>by omega⟩
  unfold mv
  rw [List.getD_eq_getElem?_getD,List.getElem?_replicate,if_pos hj];rfl
 | k+1,hk,j,hj=>by
  have ih:=Mt h (k:=k) (by omega) j hj
  unfold mv
  by_cases c:0<fq (dc p k).op
  ·rw [if_pos c,CU (by omega)]
   have ho:=h.ends (by omega) c
   obtain⟨i,r,e1,_⟩:=Ex (p:=p) (s:=ch p k) (by omega)
   rw [e1]
   show (((mv p k).set i.toNat (k:Int)).getD j 0=-1∧_)∨∃e:Nat,((mv p k).set i.toNat (k:Int)).getD j 0=e∧_
   have hi:=nO i (by rw [e1];simp)
   by_cases ej:i.toNat=j
   ·right
    refine⟨k,?_,by omega,c,r,by rw [e1];congr 1;omega⟩
    rw [List.getD_eq_getElem?_getD,ej,List.getElem?_set_self (by rw [Ft];exact hj)];rfl
   ·rw [List.getD_eq_getElem?_getD,List.getElem?_set_ne ej,←List.getD_eq_getElem?_getD]
    rcases ih with ⟨g1,g2⟩ | g
    ·left
     refine⟨g1,fun e he g3=>?_⟩
     by_cases ek:e=k
     ·subst ek
      obtain⟨_,_,r',g4⟩:=g3
      rw [e1] at g4
      cases g4
      exact ej (by omega)
     ·exact g2 e (by omega) g3
    ·exact .inr g
  ·rw [if_neg c]
   rcases ih with ⟨g1,g2⟩ | g
   ·left
    refine⟨g1,fun e he g3=>?_⟩
    by_cases ek:e=k
    ·subst ek;exact c g3.2.1
    ·exact g2 e (by omega) g3
   ·exact .inr g
theorem BZ (h:sP p){j:Nat}:∀{d k:Nat},k+d=p.length→(j:Int)∈ch p k→∃e,sd p j e
 | 0,k,e,hj=>by
  have:k=p.length:=by omega
  subst this
  rw [h.shut] at hj;cases hj
 | d+1,k,e,hj=>by
  by_cases c:0<fq (dc p k).op
  ·have ho:=h.ends (k:=k) (by omega) c
   obtain⟨i,r,e1,_⟩:=Ex (p:=p) (s:=ch p k) (by omega)
   by_cases ei:i=j
   ·subst ei;exact⟨k,by omega,c,r,e1⟩
   ·refine BZ h (d:=d) (k:=k+1) (by omega) ?_
    rw [e1] at hj
    have hj:(j:Int)∈r:=by
     rcases List.mem_cons.1 hj with g | g
     ·exact absurd g.symm ei
     ·exact g
    rw [iB]
    unfold gl
    rw [if_pos c,e1]
    split
    ·exact List.mem_cons_of_mem _ hj
    ·exact hj
  ·refine BZ h (d:=d) (k:=k+1) (by omega) ?_
   rw [iB]
   unfold gl
   rw [if_neg c]
   split
   ·exact List.mem_cons_of_mem _ hj
   ·exact hj
theorem Mu (h:sP p){j:Nat}(hk:k≤p.length)(hj:(j:Int)∈ch p k):∃e:Nat,(mv p p.length).getD j 0=e∧sd p j e:=by
 obtain⟨e,he⟩:=BZ h (d:=p.length-k) (by omega) hj
 have hlt:j<p.length:=by have:=(nO _ hj).2.1;omega
 rcases Mt h (Nat.le_refl _) j hlt with ⟨_,g⟩ | g
 ·exact absurd he (g e he.1)
 ·exact g
theorem Bp:∀{n j:Nat},(dc p j).op≠16→(i8 p n).getD j 0=(mv p p.length).getD j 0
 | 0,j,_=>rfl
 | n+1,j,h=>by
  unfold i8
  split
  ·rename_i c
   have:n≠j:=fun e=>by subst e;exact h c
   rw [List.getD_eq_getElem?_getD,List.getElem?_set_ne this,←List.getD_eq_getElem?_getD]
   exact Bp h
  ·exact Bp h
theorem Fq (h:sP p):∀{n j:Nat},n≤p.length→j<n→(dc p j).op=16→(i8 p n).getD j 0=(mv p p.length).getD (fu (ch p j)).toNat 0
 | 0,j,_,h,_=>by omega
 | n+1,j,hn,hj,hu=>by
  unfold i8
  by_cases e:j=n
  ·subst e
   rw [if_pos hu,CU (by omega),List.getD_eq_getElem?_getD,List.getElem?_set_self (by rw [CH];omega)]
   show (i8 p j).getD _ 0=_
   have ho:=h.undo (by omega) hu
   obtain⟨i,r,e1,e2⟩:=Ex (p:=p) (s:=ch p j) (by omega)
   rw [e1]
   exact Bp (by show (dc p i.toNat).op≠16;rw [e2,ho];decide)
  ·split
   ·rw [List.getD_eq_getElem?_getD,List.getElem?_set_ne (fun g=>e g.symm),←List.getD_eq_getElem?_getD]
    exact Fq h (by omega) (by omega) hu
   ·exact Fq h (by omega) (by omega) hu
theorem LP (hc:Ak p=0):(ny p).length=p.length:=by unfold ny;rw [if_pos hc];exact CH
theorem Hk (hc:Ak p=0){j:Nat}(hk:k≤p.length)(hj:(j:Int)∈ch p k):∃e:Nat,(ny p).getD j 0=e∧sd p j e:=by
 have h:=qe hc
 have hb:=(nO _ hj).2.2
 unfold ny
 rw [if_pos hc,Bp (fun e=>by
  have e2:((j:Int).toNat)=j:=by omega
  rw [e2,e] at hb
  rcases hb with g | g
  ·cases g
  ·cases g)]
 exact Mu h hk hj
theorem KJ (hc:Ak p=0)(hk:k<p.length)(hu:(dc p k).op=16):∃j e:Nat,∃r,ch p k=(j:Int)::r∧(ny p).getD k 0=e∧sd p j e:=by
 have h:=qe hc
 have ho:=h.undo hk hu
 obtain⟨i,r,e1,e2⟩:=Ex (p:=p) (s:=ch p k) (by omega)
 have hi:=nO i (by rw [e1];simp)
 obtain⟨e,he,he2⟩:=Mu h (k:=k) (j:=i.toNat) (by omega) (by rw [e1,show ((i.toNat:Nat):Int)=i by omega];simp)
 refine⟨i.toNat,e,r,by rw [e1];congr 1;omega,?_,he2⟩
 unfold ny
 rw [if_pos hc,Fq h (Nat.le_refl _) hk hu,e1]
 exact he
theorem sd.behind {j e:Nat}{r:List Int}(h:sd p j e)(hs:ch p k=(j:Int)::r):ch p (e+1)=if (dc p e).op=18 then (e:Int)::r else r:=by
 obtain⟨h1,h2,r',h3⟩:=h
 have e1:=AK hs
 rw [AK h3] at e1
 cases e1
 rw [iB]
 unfold gl
 rw [if_pos h2,h3]
 have hb:fz (dc p e).op=false:=by
  cases hb:fz (dc p e).op with
  | false=>rfl
  | true =>
   unfold fz at hb
   unfold fq at h2
   simp only [Bool.or_eq_true,decide_eq_true_eq] at hb
   rcases hb with g | g <;> rw [g] at h2 <;> simp at h2
 rw [hb,Bool.false_or]
 by_cases c:(dc p e).op=18
 ·rw [if_pos c,if_pos (by simpa using c)];rfl
 ·rw [if_neg c,if_neg (by simpa using c)];rfl
theorem sd.op (hc:Ak p=0){j e:Nat}(h:sd p j e):(dc p j).op=fq (dc p e).op:=by
 obtain⟨h1,h2,r,h3⟩:=h
 have:=(qe hc).ends h1 h2
 rw [h3] at this
 exact this
theorem NQ (hc:Ak p=0):∀n∈ny p,-1≤n∧n≤1000:=by
 have h:=qe hc
 have he:∀k,k≤p.length→∀n∈mv p k,-1≤n∧n≤1000:=by
  intro k
  induction k with
  | zero=>intro _ n hn;have:=(List.mem_replicate.1 hn).2;omega
  | succ k ih =>
   intro hk n hn
   unfold mv at hn
   split at hn
   ·rcases List.mem_or_eq_of_mem_set hn with g | g
    ·exact ih (by omega) n g
    ·have:=h.len;omega
   ·exact ih (by omega) n hn
 have hu:∀k,k≤p.length→∀n∈i8 p k,-1≤n∧n≤1000:=by
  intro k
  induction k with
  | zero=>exact fun _=>he _ (Nat.le_refl _)
  | succ k ih =>
   intro hk n hn
   unfold i8 at hn
   split at hn
   ·rcases List.mem_or_eq_of_mem_set hn with g | g
    ·exact ih (by omega) n g
    ·rw [List.getD_eq_getElem?_getD] at g
     cases hx:(i8 p k)[((cj p).getD k 0).toNat]? with
     | none=>rw [hx] at g;have g:n=0:=g;omega
     | some y=>rw [hx] at g;have g:n=y:=g;rw [g];exact ih (by omega) y (List.mem_of_getElem? hx)
   ·exact ih (by omega) n hn
 unfold ny
 rw [if_pos hc]
 exact hu _ (Nat.le_refl _)
end
structure Pe (s:fR):Prop where
 ok:uA s.l
 in_:∀r∈s.l.r::s.l.up,∀c∈r.c,c.place<s.size
def Nd (t:fR):Prop:=Kr t t.need=true∧fl t.k t.need=none
structure Vs (s t:fR)(d:Nat):Prop where
 k:t.k=s.k
 size:t.size=s.size
 ok:Pe s→Pe t
 fr:t.l.frees.length≤s.l.frees.length+d
def Vr (s:fR)(t:fR)(e:Int)(d:Nat):Prop:=Vs s t d∧(e=11→Nd t∧t.l.frees.length≤s.l.frees.length)
section
variable {s t u:fR}{d d2:Nat}{a x e n c:Int}{l:List au}
theorem Vs.refl:Vs s s 0:=⟨rfl,rfl,id,Nat.le_refl _⟩
theorem Vs.trans (h:Vs s t d)(g:Vs t u d2):Vs s u (d+d2):=⟨g.k.trans h.k,g.size.trans h.size,fun o=>g.ok (h.ok o),by have:=h.fr;have:=g.fr;omega⟩
theorem Vs.le (h:Vs s t d)(g:d≤d2):Vs s t d2:=⟨h.k,h.size,h.ok,by have:=h.fr;omega⟩
theorem Vr.of (h:Vs s t d)(he:e≠11):Vr s t e d:=⟨h,fun g=>absurd g he⟩
theorem Vr.trans (h:Vs s t 0)(g:Vr t u e d):Vr s u e d:=⟨by have:=h.trans g.1;rw [Nat.zero_add] at this;exact this,fun e=>⟨(g.2 e).1,by have:=(g.2 e).2;have:=h.fr;omega⟩⟩
theorem qy {s:kh}:s.frees.length=(fS s.up).length+s.r.f.length:=by
 unfold kh.frees
 rw [kz,List.length_append]
 have h1:∀l:List Lv,(fS l.reverse).length=(fS l).length:=fun l=>by
  unfold fS
  simp [List.length_flatMap,List.map_reverse,List.sum_reverse]
 rw [h1]
 simp [fS]
theorem jQ {s:fR}{a:Int}:Vr s (cr s a).1 (cr s a).2.2 0:=by
 unfold cr
 split
 ·rename_i hv
  split
  ·exact .of .refl (by simp)
  ·split
   ·exact .of .refl (by simp)
   ·rename_i h2
    exact⟨⟨rfl,rfl,fun o=>⟨o.ok,o.in_⟩,Nat.le_refl _⟩,fun _=>⟨⟨hv,h2⟩,Nat.le_refl _⟩⟩
 ·exact .of .refl (by simp)
theorem MY {s:kh}{a:Int}:mn s a≠11:=by unfold mn;split <;> (try split) <;> (try split) <;> decide
theorem K1 {cs:List au}{a x:Int}{z:au}(h:z∈i5 cs a x):z∈cs∨z=⟨a,x⟩:=by
 cases hi:je cs a with
 | none=>rw [(jb hi).1] at h;simpa using h
 | some k =>
  obtain⟨_,_,g,_⟩:=ni hi
  rw [g] at h
  exact List.mem_or_eq_of_mem_set h
theorem FQ {z:au}:∀{l cs:List au},z∈ip cs l→z∈cs∨∃c∈l,z.place=c.place
 | [],cs,h=>.inl h
 | c::l,cs,h=>by
  have h:z∈ip (i5 cs c.place c.word) l:=h
  rcases FQ h with g | ⟨y,hy,g⟩
  ·rcases K1 g with g | g
   ·exact .inl g
   ·exact .inr ⟨c,by simp,by rw [g]⟩
  ·exact .inr ⟨y,by simp [hy],g⟩
theorem QE {s:fR}(ha:a<s.size)(h0:mn s.l a=0):Vs s (s.log (s.l.put a x)) 0 :=
 ⟨rfl,rfl,fun o=>⟨o.ok.put h0,fun r hr z hz=>by
  rcases List.mem_cons.1 hr with e | hr
  ·subst e
   rcases K1 hz with g | g
   ·exact o.in_ _ (by simp) z g
   ·rw [g];exact ha
  ·exact o.in_ r (List.mem_cons_of_mem _ hr) z hz⟩,by
  show (s.l.put a x).frees.length≤_
  rw [qy,qy];exact Nat.le_refl _⟩
theorem Fc (h:Kr s a=true):1≤a∧a<s.size:=by unfold Kr at h;simpa using h
theorem QP:Vr s (se s a x).1 (se s a x).2 0:=by
 unfold se
 split
 ·rename_i hv
  refine .of ?_ MY
  show Vs s (s.log (if mn s.l a=0 then s.l.put a x else s.l)) 0
  split
  ·rename_i h0;exact QE (Fc hv).2 h0
  ·exact⟨rfl,rfl,fun o=>⟨o.ok,o.in_⟩,Nat.le_refl _⟩
 ·exact .of .refl (by simp)
theorem MA:∀{l:List au}{s:fR},(∀c∈l,c.place<s.size)→Vs s (s.log (jk s.l l).1) 0∧(jk s.l l).2≠11
 | [],s,_=>⟨⟨rfl,rfl,fun o=>⟨o.ok,o.in_⟩,Nat.le_refl _⟩,by simp [jk]⟩
 | c::l,s,h=>by
  unfold jk
  split
  ·rename_i h0
   have h1:=QE (s:=s) (x:=c.word) (h c (by simp)) h0
   have h2:=MA (l:=l) (s:=s.log (s.l.put c.place c.word)) (fun y hy=>h y (by simp [hy]))
   exact⟨h1.trans h2.1,h2.2⟩
  ·exact⟨⟨rfl,rfl,fun o=>⟨o.ok,o.in_⟩,Nat.le_refl _⟩,MY⟩
theorem rM:Vr s (gU s l).1 (gU s l).2 0:=by
 unfold gU
 split
 ·rename_i hv
  have hv:∀c∈l,c.place<s.size:=fun c hc=>(Fc (List.all_eq_true.1 hv c hc)).2
  have h:=MA hv
  unfold pu
  split
  ·exact .of h.1 (by simp)
  ·exact .of ⟨rfl,rfl,fun o=>⟨o.ok,o.in_⟩,Nat.le_refl _⟩ h.2
 ·exact .of .refl (by simp)
theorem Q9:Vr s (s.log (lK s.l).1) (lK s.l).2 0:=by
 unfold lK
 split
 ·exact .of ⟨rfl,rfl,fun o=>⟨o.ok,o.in_⟩,Nat.le_refl _⟩ (by simp)
 ·rename_i h6
  refine .of ⟨rfl,rfl,fun o=>⟨o.ok.opened h6,fun r hr z hz=>?_⟩,?_⟩ (by simp)
  ·rcases List.mem_cons.1 hr with e | hr
   ·subst e;cases hz
   ·exact o.in_ r hr z hz
  ·simp only [qy,fS,List.flatMap_cons,List.length_append,List.length_nil];omega
theorem Nj:Vr s (s.log (m9 s.l).1) (m9 s.l).2 0:=by
 unfold m9
 split
 ·exact .of ⟨rfl,rfl,fun o=>⟨o.ok,o.in_⟩,Nat.le_refl _⟩ (by simp)
 ·rename_i q up e
  refine .of ⟨rfl,rfl,fun o=>⟨o.ok.kept e,fun r hr z hz=>?_⟩,?_⟩ (by simp)
  ·have hi:=o.in_
   rw [e] at hi
   rcases List.mem_cons.1 hr with e2 | hr
   ·subst e2
    rcases FQ hz with g | ⟨y,hy,g⟩
    ·exact hi q (by simp) z g
    ·rw [g];exact hi s.l.r (by simp) y hy
   ·exact hi r (by simp [hr]) z hz
  ·simp only [qy,e,fS,List.flatMap_cons,List.length_append];omega
theorem Nr:Vr s (s.log (fX s.l).1) (fX s.l).2 0:=by
 unfold fX
 split
 ·exact .of ⟨rfl,rfl,fun o=>⟨o.ok,o.in_⟩,Nat.le_refl _⟩ (by simp)
 ·rename_i q up e
  refine .of ⟨rfl,rfl,fun o=>⟨o.ok.dropped e,fun r hr z hz=>?_⟩,?_⟩ (by simp)
  ·have hi:=o.in_
   rw [e] at hi
   exact hi r (List.mem_cons_of_mem _ hr) z hz
  ·simp only [qy,e,fS,List.flatMap_cons,List.length_append];omega
theorem Sb:Vs s (s.log (s.l.free n)) 1:=by
 refine⟨rfl,rfl,fun o=>⟨o.ok.free,fun r hr z hz=>?_⟩,?_⟩
 ·rcases List.mem_cons.1 hr with e | hr
  ·subst e;exact o.in_ s.l.r (by simp) z hz
  ·exact o.in_ r (List.mem_cons_of_mem _ hr) z hz
 ·simp only [qy,kh.free,List.length_append,List.length_singleton];omega
theorem QW:Vr s (si s c a).1 (si s c a).2.2 0:=by
 unfold si
 split
 ·exact .of .refl (by simp)
 ·split
  ·refine .trans (jQ (a:=iF a)).1 ?_
   split
   ·exact .of rM.1 (by simp)
   ·exact rM
  ·exact jQ
theorem Pr:Vr s (rY s c).1 (rY s c).2.2 0:=by
 unfold rY
 split
 ·refine .trans (jQ (a:=5)).1 ?_
  split
  ·exact .of .refl (by simp)
  ·split
   ·exact .of rM.1 (by simp)
   ·exact rM
 ·exact jQ
theorem Ki:Vr s (jE s n).1 (jE s n).2.2 0:=by
 unfold jE
 split
 ·exact .of .refl (by simp)
 ·split
  ·refine .trans (jQ (a:=ir (kQ n))).1 ?_
   split
   ·exact Pr
   ·exact QW
  ·exact jQ
theorem vL:Vr s (i0 s n).1 (i0 s n).2.2.2 0:=by
 unfold i0
 split
 ·exact .of .refl (by simp)
 ·split
  ·split
   ·exact .of jQ.1 (by simp)
   ·exact .of jQ.1 (by simp)
  ·exact jQ
theorem QR:Vr s (zt s n).1 (zt s n).2 1:=by
 unfold zt DX
 split
 ·refine .trans (vL (n:=n)).1 ?_
  split
  ·split
   ·exact .of (rM.1.trans Sb) (by simp)
   ·exact⟨rM.1.le (by omega),rM.2⟩
  ·exact .of (Vs.refl.le (by omega)) (by simp)
 ·exact⟨vL.1.le (by omega),vL.2⟩
theorem R7:Vr s (pB s n).1 (pB s n).2 0:=by
 unfold pB DT
 split
 ·refine .trans (vL (n:=n)).1 ?_
  split
  ·exact .of .refl (by simp)
  ·split
   ·exact .trans jQ.1 rM
   ·exact jQ
 ·exact vL
end
structure NH (x:fm)(s:fR):Prop where
 bad:Ak x.prog=0
 mt:x.mt=ny x.prog
 pos:0≤x.pos∧x.pos≤x.prog.length
 stk:x.op.map (·.at_)=ch x.prog x.pos.toNat
 ops:∀q∈x.op,q.op=(dc x.prog q.at_.toNat).op
 told:x.op.Pairwise fun a b=>b.told≤a.told
 told2:∀q∈x.op,0≤q.told∧q.told≤x.items.length
 few:x.items.length≤16
 left:0≤x.left∧x.left≤400
 frees:(s.l.frees.length:Int)+x.left≤400
 nocall:∀i∈x.prog,i.op≠23
structure SO (p:List bu)(x z:fm)(t:fR)(d:Nat):Prop where
 prog:z.prog=p
 mt:z.mt=x.mt
 bad:z.bad=x.bad
 left:z.left=x.left
 fin:z.fin=x.fin
 nx:0≤z.next∧z.next≤p.length
 stk:z.op.map (·.at_)=ch p z.next.toNat
 ops:∀q∈z.op,q.op=(dc p q.at_.toNat).op
 told:z.op.Pairwise fun a b=>b.told≤a.told
 told2:∀q∈z.op,0≤q.told∧q.told≤z.items.length
 few:z.items.length≤16
structure OT (x:fm)(s:fR)(R:fm×fR×Int):Prop where
 vr:Vr s R.2.1 R.2.2 1
 left:R.1.left=x.left
 nx:R.2.2=0→R.1.fin=0→SO x.prog x R.1 R.2.1 1
 fin:R.2.2=0→R.1.fin=0∨R.1.fin=3
 nd:R.2.2=11→R.1=x
section
variable {x:fm}{s:fR}{i:bu}{k:Nat}
theorem SO.of {z:fm}(h:NH x s)(h1:z.prog=x.prog)(h2:z.mt=x.mt)(h3:z.bad=x.bad)(h4:z.left=x.left)(h5:z.fin=x.fin)(h6:z.op=x.op)(h7:x.items.length≤z.items.length∧z.items.length≤16)(h8:0≤z.next∧z.next≤x.prog.length)(h9:ch x.prog z.next.toNat=ch x.prog x.pos.toNat){t:fR}{d:Nat}:SO x.prog x z t d :=
 ⟨h1,h2,h3,h4,h5,h8,by rw [h6,h9];exact h.stk,by rw [h6];exact h.ops,by rw [h6];exact h.told,by rw [h6];exact fun q hq=>by have:=h.told2 q hq;omega,h7.2⟩
theorem O5 {p:List bu}(h:¬0<fq (dc p k).op∧fz (dc p k).op=false∧(dc p k).op≠18):ch p (k+1)=ch p k:=by
 rw [iB]
 unfold gl
 rw [if_neg h.1,h.2.1,if_neg (by simpa using h.2.2)]
theorem PB (h:F5 i=true):0≤i.a∧0≤i.b∧0≤i.c∧1≤i.op∧i.op≤23:=by
 unfold F5 at h
 simp only [Bool.and_eq_true,decide_eq_true_eq] at h
 obtain⟨⟨⟨⟨h0,h1⟩,h2⟩,h3⟩,_⟩:=h
 have hf:∀op:Int,0≤(tj op).1.1∧0≤(tj op).2.1.1∧0≤(tj op).2.2.1:=fun op=>by
  unfold tj
  repeat' split
  all_goals simp
 have:=hf i.op
 unfold Jj at h1 h2 h3
 simp only [Bool.and_eq_true,decide_eq_true_eq] at h1 h2 h3
 omega
theorem Mx {p:List bu}(h:k<p.length):dc p k∈p:=by
 have:dc p k=p[k]:=by
  show p.getD k TZ=_
  rw [List.getD_eq_getElem?_getD,List.getElem?_eq_getElem h];rfl
 rw [this];exact List.getElem_mem h
theorem Ka {p:List bu}{y:fm}{o a:Int}{x0:fm}(hp:y.prog=p)(hm:y.mt=x0.mt∧y.bad=x0.bad∧y.left=x0.left∧y.fin=0∧x0.fin=0)(hn:0≤y.next∧y.next≤p.length)(hs:a::y.op.map (·.at_)=ch p y.next.toNat)(ho:o=(dc p a.toNat).op)(hops:∀q∈y.op,q.op=(dc p q.at_.toNat).op)(ht:y.op.Pairwise fun a b=>b.told≤a.told)(ht2:∀q∈y.op,0≤q.told∧q.told≤y.items.length)(hf:y.items.length≤16) :
  Vr s (iT y s o a).2.1 (iT y s o a).2.2 0∧(iT y s o a).2.2≠11∧(iT y s o a).1.left=y.left∧(iT y s o a).1.fin=0∧((iT y s o a).2.2=0→SO p x0 (iT y s o a).1 (iT y s o a).2.1 0):=by
 have hv:=Q9 (s:=s)
 have h9:(lK s.l).2≠11:=by unfold lK;split <;> simp
 unfold iT
 split
 ·rename_i h0
  rw [h0] at hv
  refine⟨hv,by simp,rfl,hm.2.2.2.1,fun _=>⟨hp,hm.1,hm.2.1,hm.2.2.1,by show y.fin=_;rw [hm.2.2.2.1,hm.2.2.2.2],hn,hs,fun q hq=>?_,?_,fun q hq=>?_,hf⟩⟩
  ·rcases List.mem_cons.1 hq with e | hq
   ·subst e;exact ho
   ·exact hops q hq
  ·exact List.pairwise_cons.2 ⟨fun q hq=>(ht2 q hq).2,ht⟩
  ·rcases List.mem_cons.1 hq with e | hq
   ·subst e;exact⟨by simp,Int.le_refl _⟩
   ·exact ht2 q hq
 ·rename_i h0
  exact⟨hv,h9,rfl,hm.2.2.2.1,fun g=>absurd g h0⟩
theorem Ho {ps:List jW}{its:List Int}{q:jW}(hp:(q::ps).Pairwise fun a b=>b.told≤a.told)(h2:∀z∈q::ps,0≤z.told∧z.told≤its.length):∀z∈ps,0≤z.told∧z.told≤(its.take q.told.toNat).length:=fun z hz=>by
 have h1:=(List.pairwise_cons.1 hp).1 z hz
 have h3:=h2 q (by simp)
 have h4:=h2 z (by simp [hz])
 rw [List.length_take]
 omega
theorem JE {x0:fm}(h:NH x0 s)(hx:x.prog=x0.prog∧x.mt=x0.mt∧x.bad=x0.bad∧x.left=x0.left∧x.fin=0∧x0.fin=0∧x.items=x0.items):∀{ps:List jW}{t:fR},ps <:+ x0.op→Vs s t 0 →
  Vs s (gP x t ps).2.1 0∧(gP x t ps).2.2≠11∧(gP x t ps).1.left=x.left∧((gP x t ps).2.2=0→((gP x t ps).1.fin=0→SO x0.prog x0 (gP x t ps).1 (gP x t ps).2.1 0)∧((gP x t ps).1.fin=0∨(gP x t ps).1.fin=3))
 | [],t,_,hv=>by
  rw [E8]
  exact⟨hv,by simp,rfl,fun _=>⟨fun g=>by simp at g,.inr rfl⟩⟩
 | q::ps,t,hsf,hv=>by
  have hd:=Nr (s:=t)
  have h10:(fX t.l).2≠11:=by unfold fX;split <;> simp
  have hv2:=hv.trans hd.1
  rw [xq]
  by_cases c:(fX t.l).2=0
  ·rw [if_pos c]
   by_cases c2:q.op=17
   ·rw [if_pos c2]
    have hq:=hsf.subset (List.mem_cons_self (a:=q) (l:=ps))
    have hat:∃k:Nat,k≤x0.prog.length∧(q.at_::ps.map (·.at_)) <:+ ch x0.prog k:=⟨x0.pos.toNat,by have:=h.pos;omega,by rw [←h.stk];obtain⟨r,hr⟩:=hsf;exact⟨r.map (·.at_),by rw [←hr];simp⟩⟩
    obtain⟨k,hk,hsu⟩:=hat
    have htop:=FN hsu
    have hin:=nO q.at_ (hsu.subset (by simp))
    have ej:((q.at_.toNat:Nat):Int)=q.at_:=by omega
    obtain⟨e,he,hend⟩:=Hk h.bad (k:=k) (j:=q.at_.toNat) hk (by rw [ej];exact hsu.subset (by simp))
    have hop:=hend.op h.bad
    rw [←h.ops q hq,c2] at hop
    have h18:(dc x0.prog e).op=18:=by
     unfold fq at hop
     split at hop
     ·cases hop
     ·split at hop
      ·assumption
      ·split at hop <;> cases hop
    have hbe:=hend.behind (k:=q.at_.toNat+1) (r:=ps.map (·.at_)) (by rw [htop,ej])
    rw [if_pos h18] at hbe
    have emt:x.mt.getD q.at_.toNat 0=e:=by rw [hx.2.1,h.mt];exact he
    rw [emt]
    have hlt:=hend.1
    have hps:=hsf.subset
    have hpw:(q::ps).Pairwise fun a b=>b.told≤a.told:=h.told.sublist hsf.sublist
    have hto:=Ho hpw (fun z hz=>h.told2 z (hps hz))
    have hb:=Ka (s:=t.log (fX t.l).1) (p:=x0.prog) (y:={ x with op:=ps,r:=q.regs,items:=x.items.take q.told.toNat,next:=(e:Int)+1 }) (o:=18) (a:=(e:Int)) (x0:=x0) hx.1 ⟨hx.2.1,hx.2.2.1,hx.2.2.2.1,hx.2.2.2.2.1,hx.2.2.2.2.2.1⟩ ⟨by simp only;omega,by simp only;omega⟩
     (by show _=ch x0.prog ((e:Int)+1).toNat;rw [show ((e:Int)+1).toNat=e+1 by omega,hbe])
     (by rw [show ((e:Int)).toNat=e by omega,h18]) (fun z hz=>h.ops z (hps (List.mem_cons_of_mem _ hz))) (List.pairwise_cons.1 hpw).2 (by rw [hx.2.2.2.2.2.2];exact hto) (by have:=h.few;rw [hx.2.2.2.2.2.2];simp only [List.length_take];omega)
    exact⟨hv2.trans hb.1.1,hb.2.1,hb.2.2.1,fun g=>⟨fun _=>hb.2.2.2.2 g,.inl hb.2.2.2.1⟩⟩
   ·rw [if_neg c2]
    exact JE h hx ((List.suffix_cons q ps).trans hsf) hv2
  ·rw [if_neg c]
   exact⟨hv2,h10,rfl,fun g=>absurd g c⟩
theorem NH.next (h:NH x s):NH { x with next:=x.pos+1 } s:=⟨h.bad,h.mt,h.pos,h.stk,h.ops,h.told,h.told2,h.few,h.left,h.frees,h.nocall⟩
theorem OT.simple {z:fm}(h:NH x s)(hp:x.pos<x.prog.length)(hf:x.fin=0)(hi:¬0<fq (dc x.prog x.pos.toNat).op∧fz (dc x.prog x.pos.toNat).op=false∧(dc x.prog x.pos.toNat).op≠18)
  (h1:z.prog=x.prog) (h2:z.mt=x.mt) (h3:z.bad=x.bad) (h4:z.left=x.left) (h5:z.fin=x.fin) (h6:z.op=x.op) (h7:x.items.length≤z.items.length∧z.items.length≤16) (h8:z.next=x.pos+1) {t:fR} {e:Int} (hv:Vr s t e 1) (he:e≠11):OT { x with next:=x.pos+1 } s (z,t,e) :=
 ⟨hv,h4,fun _ _=>SO.of h.next h1 h2 h3 h4 h5 h6 h7 (by have:=h.pos;show _∧z.next≤(x.prog.length:Int);omega) (by
  show ch x.prog z.next.toNat=ch x.prog x.pos.toNat
  have:=h.pos
  rw [h8,show (x.pos+1).toNat=x.pos.toNat+1 by omega];exact O5 hi),fun _=>.inl (by show z.fin=0;rw [h5,hf]),fun g=>absurd g he⟩
theorem OT.stop {e:Int}{t:fR}(hv:Vr s t e 1)(he:e≠0):OT x s (x,t,e):=⟨hv,rfl,fun g=>absurd g he,fun g=>absurd g he,fun _=>rfl⟩
theorem Sh (h:NH x s)(hp:x.pos<x.prog.length)(hf:x.fin=0):OT { x with next:=x.pos+1 } s (gH x s):=by
 unfold gH
 have hx:=h.pos
 have hk:x.pos.toNat<x.prog.length:=by omega
 have hg:=qe h.bad
 have hmay:=hg.may hk
 have hge:=PB hmay
 have h23:=h.nocall _ (Mx hk)
 have hins:x.ins=dc x.prog x.pos.toNat:=rfl
 rw [hins]
 have hS:=h.next
 have hr1:∀{t:fR} {e:Int},Vr s t e 0→Vr s t e 1:=fun g=>⟨g.1.le (by omega),g.2⟩
 have h0:Vr s s 0 1:=hr1 (.of .refl (by decide))
 generalize hi:dc x.prog x.pos.toNat=i at *
 have hflat:i.op≠14→i.op≠15→i.op≠17→i.op≠18→i.op≠19→¬0<fq (dc x.prog x.pos.toNat).op∧fz (dc x.prog x.pos.toNat).op=false∧(dc x.prog x.pos.toNat).op≠18:=fun a b c d e=>by
  rw [hi];unfold fq fz;simp [a,b,c,d,e]
 have hfew:=h.few
 have hset:∀{k:Nat} {y:Int} {t:fR} {e:Int},i.op≠14→i.op≠15→i.op≠17→i.op≠18→i.op≠19→Vr s t e 1→e≠11→OT { x with next:=x.pos+1 } s (rb { x with next:=x.pos+1 } k y,t,e):=fun {k y t e'} a b c d e hv he=>OT.simple (z:=rb { x with next:=x.pos+1 } k y) h hp hf (hflat a b c d e) rfl rfl rfl rfl rfl rfl ⟨Nat.le_refl _,hfew⟩ rfl hv he
 have hsame:∀{t:fR} {e:Int},i.op≠14→i.op≠15→i.op≠17→i.op≠18→i.op≠19→Vr s t e 1→OT { x with next:=x.pos+1 } s ({ x with next:=x.pos+1 },t,e):=fun {t e} a b c d g hv=>by
  by_cases he:e=0
  ·exact OT.simple (z:={ x with next:=x.pos+1 }) h hp hf (hflat a b c d g) rfl rfl rfl rfl rfl rfl ⟨Nat.le_refl _,hfew⟩ rfl hv (by rw [he];decide)
  ·exact .stop hv he
 unfold QY
 by_cases c1:i.op=1
 ·rw [if_pos c1];exact hset (by omega) (by omega) (by omega) (by omega) (by omega) h0 (by decide)
 rw [if_neg c1]
 by_cases c2:i.op=2
 ·rw [if_pos c2];exact hset (by omega) (by omega) (by omega) (by omega) (by omega) h0 (by decide)
 rw [if_neg c2]
 by_cases c3:i.op=3
 ·rw [if_pos c3];exact hset (by omega) (by omega) (by omega) (by omega) (by omega) h0 (by decide)
 rw [if_neg c3]
 by_cases c4:i.op=4
 ·rw [if_pos c4];exact hset (by omega) (by omega) (by omega) (by omega) (by omega) h0 (by decide)
 rw [if_neg c4]
 by_cases c5:i.op=5
 ·rw [if_pos c5];exact hset (by omega) (by omega) (by omega) (by omega) (by omega) h0 (by decide)
 rw [if_neg c5]
 by_cases c6:i.op=6
 ·rw [if_pos c6];exact hset (by omega) (by omega) (by omega) (by omega) (by omega) h0 (by decide)
 rw [if_neg c6]
 by_cases c7:i.op=7
 ·rw [if_pos c7];exact hset (by omega) (by omega) (by omega) (by omega) (by omega) h0 (by decide)
 rw [if_neg c7]
 have hjump:(i.op=12∨i.op=13)→OT { x with next:=x.pos+1 } s ({ x with next:=i.c },s,0):=fun g=>by
  have:=hg.jumps hk (by rw [hi];exact g) (by rw [hi];exact hge.2.2.1)
  rw [hi] at this
  exact⟨h0,rfl,fun _ _=>SO.of (z:={ x with next:=i.c }) hS rfl rfl rfl rfl rfl rfl ⟨Nat.le_refl _,hfew⟩ ⟨hge.2.2.1,this.1⟩ this.2,fun _=>.inl hf,fun g=>by cases g⟩
 by_cases c12:i.op=12
 ·rw [if_pos c12];exact hjump (.inl c12)
 rw [if_neg c12]
 by_cases c13:i.op=13
 ·rw [if_pos c13]
  split
  ·exact hjump (.inr c13)
  ·exact hsame (by omega) (by omega) (by omega) (by omega) (by omega) h0
 rw [if_neg c13]
 by_cases c21:i.op=21
 ·rw [if_pos c21]
  split
  ·rename_i g
   have g:x.items.length<16:=g
   exact OT.simple (z:={ x with next:=x.pos+1,items:=x.items++[x.r.get (m8 i.a)] }) h hp hf (hflat (by omega) (by omega) (by omega) (by omega) (by omega)) rfl rfl rfl rfl rfl rfl ⟨by simp,by simp only [List.length_append,List.length_singleton];omega⟩ rfl h0 (by decide)
  ·exact hsame (by omega) (by omega) (by omega) (by omega) (by omega) (hr1 (.of .refl (by decide)))
 rw [if_neg c21]
 by_cases c22:i.op=22
 ·rw [if_pos c22];exact hsame (by omega) (by omega) (by omega) (by omega) (by omega) (hr1 (.of .refl (by decide)))
 rw [if_neg c22]
 by_cases c89:i.op=8∨i.op=9∨i.op=10∨i.op=11
 ·rw [if_pos c89]
  unfold tD
  split
  ·split
   ·exact hsame (by omega) (by omega) (by omega) (by omega) (by omega) (hr1 (.of .refl (by decide)))
   ·split
    ·exact hset (by omega) (by omega) (by omega) (by omega) (by omega) (hr1 (.of jQ.1 (by decide))) (by decide)
    ·exact hsame (by omega) (by omega) (by omega) (by omega) (by omega) (hr1 jQ)
  ·split
   ·split
    ·exact hsame (by omega) (by omega) (by omega) (by omega) (by omega) (hr1 (.of .refl (by decide)))
    ·exact hsame (by omega) (by omega) (by omega) (by omega) (by omega) (hr1 QP)
   ·split
    ·split
     ·exact hsame (by omega) (by omega) (by omega) (by omega) (by omega) (hr1 (.of .refl (by decide)))
     ·split
      ·exact hset (by omega) (by omega) (by omega) (by omega) (by omega) (hr1 (.of Ki.1 (by decide))) (by decide)
      ·exact hsame (by omega) (by omega) (by omega) (by omega) (by omega) (hr1 Ki)
    ·split
     ·exact hsame (by omega) (by omega) (by omega) (by omega) (by omega) (hr1 (.of .refl (by decide)))
     ·exact hsame (by omega) (by omega) (by omega) (by omega) (by omega) QR
 rw [if_neg c89]
 have epos:((x.pos.toNat:Nat):Int)=x.pos:=by omega
 unfold A1
 split
 ·rename_i c
  have hb:=Ka (s:=s) (p:=x.prog) (y:={ x with next:=x.pos+1 }) (o:=i.op) (a:=x.pos) (x0:={ x with next:=x.pos+1 }) rfl ⟨rfl,rfl,rfl,hf,hf⟩ ⟨by simp only;omega,by simp only;omega⟩
   (by
    show x.pos::x.op.map (·.at_)=ch x.prog (x.pos+1).toNat
    rw [show (x.pos+1).toNat=x.pos.toNat+1 by omega,iB,hi,h.stk,epos]
    unfold gl fz fq
    rcases c with c | c <;> simp [c])
   (by rw [hi]) h.ops h.told h.told2 h.few
  exact⟨hr1 hb.1,hb.2.2.1,fun g _=>by have:=hb.2.2.2.2 g;exact⟨this.prog,this.mt,this.bad,this.left,this.fin,this.nx,this.stk,this.ops,this.told,this.told2,this.few⟩,fun _=>.inl hb.2.2.2.1,fun g=>absurd g hb.2.1⟩
 ·rename_i c14
  have hk9:(m9 s.l).2≠11:=by unfold m9;split <;> simp
  have hd9:(fX s.l).2≠11:=by unfold fX;split <;> simp
  have hne:(i.op=15∨i.op=16∨i.op=18∨i.op=19)→∃q ps,x.op=q::ps∧ch x.prog x.pos.toNat=q.at_::ps.map (·.at_):=fun g=>by
   have hne:Jt x.prog (ch x.prog x.pos.toNat)≠0:=by
    by_cases c16:i.op=16
    ·rw [hg.undo hk (by rw [hi];exact c16)];decide
    ·rw [hg.ends hk (by rw [hi];unfold fq;rcases g with g | g | g | g <;> simp [g] <;> omega),hi]
     unfold fq;rcases g with g | g | g | g <;> simp [g] <;> omega
   obtain⟨j,r,e1,_⟩:=Ex hne
   have hs:=h.stk
   rw [e1] at hs
   cases hx:x.op with
   | nil=>rw [hx] at hs;cases hs
   | cons q ps=>exact⟨q,ps,rfl,by rw [e1,←hs,hx];rfl⟩
  split
  ·rename_i c
   obtain⟨q,ps,e1,e2⟩:=hne (by omega)
   rw [show ({ x with next:=x.pos+1 }:fm).op=q::ps from e1,List.tail_cons]
   refine⟨hr1 Nj,rfl,fun g _=>⟨rfl,rfl,rfl,rfl,rfl,⟨by simp only;omega,by simp only;omega⟩,?_,fun z hz=>h.ops z (by rw [e1];exact List.mem_cons_of_mem _ hz),?_,fun z hz=>h.told2 z (by rw [e1];exact List.mem_cons_of_mem _ hz),h.few⟩,fun _=>.inl hf,fun g=>absurd g hk9⟩
   ·show ps.map (·.at_)=ch x.prog (x.pos+1).toNat
    rw [show (x.pos+1).toNat=x.pos.toNat+1 by omega,iB,hi,e2]
    unfold gl fz fq
    rcases c with c | c <;> simp [c]
   ·have:=h.told;rw [e1] at this;exact(List.pairwise_cons.1 this).2
  ·rename_i c15
   split
   ·rename_i c18
    obtain⟨q,ps,e1,e2⟩:=hne (by omega)
    rw [show ({ x with next:=x.pos+1 }:fm).op=q::ps from e1,List.tail_cons]
    have hs1:ch x.prog (x.pos.toNat+1)=(x.pos.toNat:Int)::ps.map (·.at_):=by
     rw [iB,hi,e2]
     unfold gl fz fq
     simp [c18]
    obtain⟨e,he,hend⟩:=Hk h.bad (k:=x.pos.toNat+1) (j:=x.pos.toNat) (by omega) (by rw [hs1];simp)
    have hbe:=hend.behind hs1
    have hop:=hend.op h.bad
    rw [hi,c18] at hop
    have hn18:(dc x.prog e).op≠18:=by
     intro g;rw [g] at hop;unfold fq at hop;simp at hop
    rw [if_neg hn18] at hbe
    have emt:x.mt.getD x.pos.toNat 0=e:=by rw [h.mt];exact he
    have hlt:=hend.1
    show OT _ s ({ x with op:=ps,next:=x.mt.getD x.pos.toNat 0+1 },_,_)
    rw [emt]
    refine⟨hr1 Nj,rfl,fun g _=>⟨rfl,rfl,rfl,rfl,rfl,⟨by simp only;omega,by simp only;omega⟩,?_,fun z hz=>h.ops z (by rw [e1];exact List.mem_cons_of_mem _ hz),?_,fun z hz=>h.told2 z (by rw [e1];exact List.mem_cons_of_mem _ hz),h.few⟩,fun _=>.inl hf,fun g=>absurd g hk9⟩
    ·show ps.map (·.at_)=ch x.prog ((e:Int)+1).toNat
     rw [show ((e:Int)+1).toNat=e+1 by omega,hbe]
    ·have:=h.told;rw [e1] at this;exact(List.pairwise_cons.1 this).2
   ·rename_i c18
    split
    ·rename_i c16
     obtain⟨q,ps,e1,e2⟩:=hne (by omega)
     rw [show ({ x with next:=x.pos+1 }:fm).op=q::ps from e1,List.tail_cons,List.headD_cons]
     obtain⟨j,e,r,g1,he,hend⟩:=KJ h.bad hk (by rw [hi];exact c16)
     have hbe:=hend.behind g1
     have hop:=hend.op h.bad
     have hun:=hg.undo hk (by rw [hi];exact c16)
     rw [g1] at hun
     have hun:(dc x.prog ((j:Int).toNat)).op=14:=hun
     rw [show ((j:Int).toNat)=j by omega] at hun
     rw [hun] at hop
     have hn18:(dc x.prog e).op≠18:=by
      intro g;rw [g] at hop;unfold fq at hop;simp at hop
     rw [if_neg hn18] at hbe
     have emt:x.mt.getD x.pos.toNat 0=e:=by rw [h.mt];exact he
     have hlt:=hend.1
     rw [g1] at e2
     simp only [List.cons.injEq] at e2
     show OT _ s ({ x with op:=ps,r:=q.regs,items:=x.items.take q.told.toNat,next:=x.mt.getD x.pos.toNat 0+1 },_,_)
     rw [emt]
     have hto:=h.told
     have ht2:=h.told2
     rw [e1] at hto ht2
     refine⟨hr1 Nr,rfl,fun g _=>⟨rfl,rfl,rfl,rfl,rfl,⟨by simp only;omega,by simp only;omega⟩,?_,fun z hz=>h.ops z (by rw [e1];exact List.mem_cons_of_mem _ hz),(List.pairwise_cons.1 hto).2,Ho hto ht2,by simp only [List.length_take];omega⟩,fun _=>.inl hf,fun g=>absurd g hd9⟩
     show ps.map (·.at_)=ch x.prog ((e:Int)+1).toNat
     rw [show ((e:Int)+1).toNat=e+1 by omega,hbe,e2.2]
    ·have hr:=JE (x:={ x with next:=x.pos+1 }) (x0:={ x with next:=x.pos+1 }) hS ⟨rfl,rfl,rfl,rfl,hf,hf,rfl⟩ (ps:=x.op) (t:=s) (List.suffix_refl _) .refl
     exact⟨hr1 ⟨hr.1,fun g=>absurd g hr.2.1⟩,hr.2.2.1,fun g g2=>by have:=(hr.2.2.2 g).1 g2;exact⟨this.prog,this.mt,this.bad,this.left,this.fin,this.nx,this.stk,this.ops,this.told,this.told2,this.few⟩,fun g=>(hr.2.2.2 g).2,fun g=>absurd g hr.2.1⟩
theorem NH.stepOk (h:NH x s)(hp:x.pos<x.prog.length)(hf:x.fin=0):PE x s:=by
 have hx:=h.pos
 have hk:x.pos.toNat<x.prog.length:=by omega
 have hg:=qe h.bad
 have hge:=PB (hg.may hk)
 have hlen:=hg.len
 have hfr:=h.frees
 have hl:=h.left
 have hop:x.op.length≤40:=by
  have h1:=congrArg List.length h.stk
  have h2:=JX (p:=x.prog) (k:=x.pos.toNat)
  rw [List.length_map] at h1
  omega
 have hmt:x.mt.length=x.prog.length:=by rw [h.mt];exact LP h.bad
 have hd:=Sh h hp hf
 have hfew:=h.few
 have hfe:=qy (s:=s.l)
 have hins:x.ins=dc x.prog x.pos.toNat:=rfl
 refine⟨by omega,hx.1,hp,⟨hge.1,hge.2.1,hge.2.2.1,h.nocall _ (Mx hk),hfew,by omega,⟨by show x.op.length≤_;omega,by show x.items.length≤_;omega,fun q hq=>?_,by show ∀n∈x.mt,_;rw [h.mt];exact NQ h.bad,by omega,fun g e=>?_,fun _=>⟨hx.1,by show x.pos<(x.mt.length:Int);rw [hmt];exact hp⟩⟩⟩,?_⟩
 ·have h2:=h.told2 q hq
  have h3:q.at_∈ch x.prog x.pos.toNat:=by rw [←h.stk];exact List.mem_map.2 ⟨q,hq,rfl⟩
  have h4:=nO _ h3
  show 0≤q.told∧q.told≤(x.items.length:Int)∧0≤q.at_∧q.at_<(x.mt.length:Int)
  rw [hmt];omega
 ·have e:x.op=[]:=e
  have hs:=h.stk
  rw [e] at hs
  have hne:Jt x.prog (ch x.prog x.pos.toNat)≠0:=by
   rw [hins] at g
   by_cases c16:(dc x.prog x.pos.toNat).op=16
   ·rw [hg.undo hk c16];decide
   ·rw [hg.ends hk (by unfold fq;rcases g with g | g | g | g <;> simp only [g] <;> simp <;> omega)]
    unfold fq;rcases g with g | g | g | g <;> simp only [g] <;> simp <;> omega
  rw [←hs] at hne
  exact hne rfl
 ·have:=hd.left
  rw [this]
  show 0≤x.left∧x.left≤1000
  omega
theorem NH.on {z:fm}{t:fR}(h:NH x s)(hl:0<x.left)(hv:Vs s t 1)(hn:SO x.prog { x with next:=x.pos+1 } z t 1):NH z.on t:=by
 have h1:z.left=x.left:=hn.left
 have hfr:=hv.fr
 have h2:=h.frees
 have h3:=h.left
 exact⟨by rw [hn.prog];exact h.bad,by show z.mt=ny z.prog;rw [hn.prog];exact hn.mt.trans h.mt,by show 0≤z.next∧z.next≤(z.prog.length:Int);rw [hn.prog];exact hn.nx,by show _=ch z.prog z.next.toNat;rw [hn.prog];exact hn.stk,by show ∀q∈z.op,q.op=(dc z.prog q.at_.toNat).op;rw [hn.prog];exact hn.ops,hn.told,hn.told2,hn.few,by show 0≤z.left-1∧z.left-1≤400;omega,by show (t.l.frees.length:Int)+(z.left-1)≤400;omega,by rw [hn.prog];exact h.nocall⟩
def Mc (x:fm)(s:fR):Prop:=x.fin=0→x.bad=0→NH x s
structure QI (x:fm)(s:fR)(R:fm×fR×Int):Prop where
 k:R.2.1.k=s.k
 size:R.2.1.size=s.size
 ok:Pe s→Pe R.2.1
 fin:R.2.2=1∨R.2.2=2∨R.2.2=3∨R.2.2=4
 need:R.2.2=1→Nd R.2.1∧Mc R.1 R.2.1∧R.1.fin=0
 frees:R.2.2=2→R.2.1.l.frees.length≤400∧R.1.items.length≤16
theorem P5:∀{n:Nat}{x:fm}{s:fR},Mc x s→x.fin=0→(x.bad=0→x.left<n)→0<n→wD n x s∧QI x s (jp n x s)
 | 0,_,_,_,_,_,h=>absurd h (by decide)
 | n+1,x,s,h,hf,hl,_=>by
  by_cases c1:x.bad=0
  ·have h:=h hf c1
   have hl:=hl c1
   have hfr:=h.frees
   have hll:=h.left
   rw [jp,if_neg (fun g=>g hf),if_neg (fun g=>g c1)]
   by_cases c2:x.pos=x.prog.length
   ·rw [if_pos c2]
    exact⟨.inr (.inr (.inl c2)),rfl,rfl,id,.inr (.inl rfl),(by simp),fun _=>⟨by show s.l.frees.length≤400;omega,h.few⟩⟩
   ·rw [if_neg c2]
    by_cases c3:x.left=0
    ·rw [if_pos c3]
     exact⟨.inr (.inr (.inr (.inl c3))),rfl,rfl,id,.inr (.inr (.inr rfl)),(by simp),(by simp)⟩
    ·rw [if_neg c3]
     have hx:=h.pos
     have hp:x.pos<x.prog.length:=by omega
     have hd:=Sh h hp hf
     have hso:=h.stepOk hp hf
     generalize hR:gH x s=R at hd
     obtain⟨z,t,e⟩:=R
     obtain⟨d1,d2,d3,d4,d5⟩:=hd
     simp only at d1 d2 d3 d4 d5 ⊢
     have hgo:wD n z.on t∧QI z.on t (jp n z.on t)→wD (n+1) x s:=fun g=>.inr (.inr (.inr (.inr ⟨hso,fun _=>by rw [hR];exact g.1⟩)))
     have hstop:e≠0→wD (n+1) x s:=fun g=>.inr (.inr (.inr (.inr ⟨hso,fun g2=>by rw [hR] at g2;exact absurd g2 g⟩)))
     by_cases e0:e=0
     ·rw [if_pos e0]
      have hnext:wD n z.on t∧QI z.on t (jp n z.on t):=by
       rcases d4 e0 with f | f
       ·have hn:=d3 e0 f
        have hS:=h.on (by omega) d1.1 hn
        refine P5 (fun _ _=>hS) f (fun _=>?_) ?_
        ·show z.left-1<_
         have:z.left=x.left:=d2
         omega
        ·omega
       ·rw [EZ (by show z.fin≠0;rw [f];decide)]
        refine⟨HB (by show z.fin≠0;rw [f];decide),rfl,rfl,id,by simp only;rw [f];simp,by simp only;rw [f];simp,by simp only;rw [f];simp⟩
      obtain⟨r1,r2,r3,r4,r5,r6,r7⟩:=hnext
      exact⟨hgo ⟨r1,r2,r3,r4,r5,r6,r7⟩,r2.trans d1.1.k,r3.trans d1.1.size,fun o=>r4 (d1.1.ok o),r5,r6,r7⟩
     ·rw [if_neg e0]
      by_cases e11:e=11
      ·rw [if_pos e11]
       have hz:=d5 e11
       subst hz
       have hv:=(d1.2 e11).2
       refine⟨hstop e0,d1.1.k,d1.1.size,d1.1.ok,.inl rfl,fun _=>⟨(d1.2 e11).1,fun _ _=>?_,hf⟩,by simp⟩
       have:=h.next
       exact⟨this.bad,this.mt,this.pos,this.stk,this.ops,this.told,this.told2,this.few,this.left,by show (t.l.frees.length:Int)+x.left≤400;omega,this.nocall⟩
      ·rw [if_neg e11]
       exact⟨hstop e0,d1.1.k,d1.1.size,d1.1.ok,.inr (.inr (.inr rfl)),by simp,by simp⟩
  ·rw [jp,if_neg (fun g=>g hf),if_pos c1]
   exact⟨.inr (.inl c1),rfl,rfl,id,.inr (.inr (.inr rfl)),by simp,by simp⟩
end
end Go.Proofs.YtoealglbimbbmaaGreatDoor.S
