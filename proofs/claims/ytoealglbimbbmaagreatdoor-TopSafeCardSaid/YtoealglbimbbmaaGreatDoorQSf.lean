import Derived.Test.YtoealglbimbbmaaGreatDoorQMac
import Derived.Test.YtoealglbimbbmaaGreatDoorQSr
import Derived.Test.YtoealglbimbbmaaGreatDoorArgs
import Derived.Test.YtoealglbimbbmaaGreatDoorQHp
namespace Go.Proofs.YtoealglbimbbmaaGreatDoor.S
open Go Go.Proofs
set_option linter.unusedVariables false
set_option linter.unusedSimpArgs false
structure tT where
 words:Int
 stripes:Int
 wide:Int
 spins:Int
 writes:Int
 fuel:Int
 start:Int
 deriving DecidableEq
abbrev tT.cells (a:tT):List Value:=[i64 a.words,i64 a.stripes,i64 a.wide,i64 a.spins,i64 a.writes,i64 a.fuel,u64 a.start]
abbrev KU:List CK:=[.i .i64,.i .i64,.i .i64,.i .i64,.i .i64,.i .i64,.i .u64]
abbrev BC:jY tT:=⟨7,tT.cells,fun | [.int .i64 x0,.int .i64 x1,.int .i64 x2,.int .i64 x3,.int .i64 x4,.int .i64 x5,.int .u64 x6]=>some ⟨x0,x1,x2,x3,x4,x5,x6⟩ | _=>none,by decide,fun _=>rfl,by simp [one],fun cs a h=>by split at h <;> cases h;rfl⟩
instance {a:tT}:fk BC a [i64 a.words,i64 a.stripes,i64 a.wide,i64 a.spins,i64 a.writes,i64 a.fuel,u64 a.start]:=⟨rfl⟩
instance {x0:Int}{x1:Int}{x2:Int}{x3:Int}{x4:Int}{x5:Int}{x6:Int}:fQ BC [i64 x0,i64 x1,i64 x2,i64 x3,i64 x4,i64 x5,u64 x6] ⟨x0,x1,x2,x3,x4,x5,x6⟩:=⟨rfl⟩
theorem NM {cs:List Value}(h:good KU cs):∃a:tT,BC.enc a=cs:=by
 obtain⟨x0,l0,e0,_,h0⟩:=pO h
 obtain⟨x1,l1,e1,_,h1⟩:=pO h0
 obtain⟨x2,l2,e2,_,h2⟩:=pO h1
 obtain⟨x3,l3,e3,_,h3⟩:=pO h2
 obtain⟨x4,l4,e4,_,h4⟩:=pO h3
 obtain⟨x5,l5,e5,_,h5⟩:=pO h4
 obtain⟨x6,l6,e6,_,h6⟩:=pO h5
 have e:=Eb h6
 exact⟨⟨x0,x1,x2,x3,x4,x5,x6⟩,by subst e;subst e6;subst e5;subst e4;subst e3;subst e2;subst e1;subst e0;rfl⟩
structure wv where
 t:Int
 draw:Int
 n:Int
 deriving DecidableEq
abbrev wv.cells (a:wv):List Value:=[i64 a.t,.int .u8 a.draw,i64 a.n]
abbrev LW:List CK:=[.i .i64,.i .u8,.i .i64]
abbrev Bp:jY wv:=⟨3,wv.cells,fun | [.int .i64 x0,.int .u8 x1,.int .i64 x2]=>some ⟨x0,x1,x2⟩ | _=>none,by decide,fun _=>rfl,by simp [one],fun cs a h=>by split at h <;> cases h;rfl⟩
instance {a:wv}:fk Bp a [i64 a.t,.int .u8 a.draw,i64 a.n]:=⟨rfl⟩
instance {x0:Int}{x1:Int}{x2:Int}:fQ Bp [i64 x0,.int .u8 x1,i64 x2] ⟨x0,x1,x2⟩:=⟨rfl⟩
theorem N9 {cs:List Value}(h:good LW cs):∃a:wv,Bp.enc a=cs:=by
 obtain⟨x0,l0,e0,_,h0⟩:=pO h
 obtain⟨x1,l1,e1,_,h1⟩:=pO h0
 obtain⟨x2,l2,e2,_,h2⟩:=pO h1
 have e:=Eb h2
 exact⟨⟨x0,x1,x2⟩,by subst e;subst e2;subst e1;subst e0;rfl⟩
section
variable {w0:bo}{L M:List bd}{K:KV}{F:World→Prop}{C:bd→List bd}{b:Nat}{x:io}{v:Value}
abbrev Nf (g:tT):dr:=⟨m4 g.words 32 80,m4 g.stripes 1 16,m4 g.wide 1 4,0,g.start.tmod 1000,m4 g.spins 0 4,m4 g.writes 4 40,m4 g.fuel 20 120⟩
theorem yJ {g:tT}[i:bf v (tT.cells g)](hK:G w0 L (K (.agg (dr.cells (Nf g)).toArray))):G w0 L (CP Tryz.prog Xv [v] K):=by
 refine yW ?_
 unfold qa
 refine G.box fun p=>?_
 refine G.new fun q=>?_
 have nz:iT (1000:Int):=⟨by decide⟩
 repeat' (first
  | exact hK.sub
  | (with_reducible refine⟨?_,?_⟩)
  | (with_reducible refine G.drew ?_)
  | (refine rx (by decide) (by decide) (by decide) (by decide) ?_)
  | (simp (maxSteps:=2000000) only [↓RG,RP,RB,BEq.rfl,Int.reduceEq,Int.reduceLT,Int.reduceLE,Nat.reduceEqDiff])
  | (refine G.new fun q2=>?_))
theorem Lm {q:wv}{a:Value}{k:Int}[i:bf v (wv.cells q)](h0:0≤k)(h1:k≤1000)(hK:G w0 L (K (i64 (m4 q.n 0 k)))):G w0 L (CP Tryz.prog Xw [a,v,i64 k] K):=by
 refine Li ?_
 unfold Eo
 refine G.box fun p=>?_
 refine gg ?_
 refine rx (by decide) h0 (by omega) (by omega) ?_
 exact hK.sub
end
def Ec (a b:Int):Int:=IntKind.wrap .u8 ((BitVec.ofInt IntKind.u8.bits a &&& BitVec.ofInt IntKind.u8.bits b).toNat:Int)
theorem Dl {a b:Int}:IntKind.wrap .u8 ((BitVec.ofInt IntKind.u8.bits a &&& BitVec.ofInt IntKind.u8.bits b).toNat:Int)=Ec a b:=rfl
theorem RC {a b:Int}(h:((BitVec.ofInt 8 b).toNat:Int)=b)(hb:b≤255):0≤Ec a b∧Ec a b≤b:=by
 have h1:(BitVec.ofInt 8 a &&& BitVec.ofInt 8 b).toNat≤(BitVec.ofInt 8 b).toNat:=by rw [BitVec.toNat_and];exact Nat.and_le_right
 have key:∀n:Nat,n≤255→IntKind.wrap .u8 (n:Int)=n:=fun n hn=>by simp [IntKind.wrap,IntKind.signed,IntKind.bits];omega
 have h2:Ec a b=((BitVec.ofInt 8 a &&& BitVec.ofInt 8 b).toNat:Int):=key (BitVec.ofInt 8 a &&& BitVec.ofInt 8 b).toNat (by omega)
 omega
def U3 (k:Int):Int:=IntKind.wrap .u64 ((IntKind.wrap .u64 ((k.fdiv 8).tmod 16)).tmod 15+2)
theorem TL (k:Int)(h:0≤k):2≤U3 k∧U3 k≤16:=by
 have h1:0≤k.fdiv 8:=by rw [Int.fdiv_eq_ediv_of_nonneg _ (by decide)];omega
 have h2:=Int.tmod_nonneg 16 h1
 have h3:=Int.tmod_lt_of_pos (k.fdiv 8) (show (0:Int)<16 by decide)
 have e:IntKind.wrap .u64 ((k.fdiv 8).tmod 16)=(k.fdiv 8).tmod 16:=CI h2 (by omega)
 unfold U3
 rw [e]
 have h4:=Int.tmod_nonneg 15 h2
 have h5:=Int.tmod_lt_of_pos ((k.fdiv 8).tmod 16) (show (0:Int)<15 by decide)
 rw [CI (by omega) (by omega)]
 omega
theorem sx.ok {p:List dv}(h:sx p):jb p:=by
 rcases h with ⟨r,n,v,c,hr,hn,_,_,_,rfl⟩ | ⟨r,hr,rfl⟩ | ⟨r,hr,rfl⟩ <;> refine⟨by simp,by simp,fun i hi=>?_⟩ <;>
  (simp only [List.mem_cons,List.not_mem_nil,or_false] at hi;unfold Gn pi;rcases hi with rfl | rfl | rfl | rfl | rfl | rfl | rfl | rfl <;> simp <;> omega)
theorem Sa {r n v:Int}(hr:r=6∨r=7)(h1:2≤n)(h2:n≤16)(hv:mf v):sx (GH r n v)∧∀k∈GH r n v,mf k.n:=by
 refine⟨.inl ⟨r,n,v,gH n,hr,⟨by omega,by omega⟩,rfl,?_,?_,rfl⟩,fun k hk=>?_⟩
 ·unfold gH;repeat' split
  all_goals omega
 ·unfold gH;repeat' split
  all_goals omega
 ·simp only [List.mem_cons,List.not_mem_nil,or_false] at hk
  rcases hk with rfl | rfl | rfl | rfl | rfl | rfl | rfl <;> first | exact hv | (unfold mf;simp <;> omega)
theorem TN {r:Int}(hr:r=6∨r=7):sx (NZ r)∧∀k∈NZ r,mf k.n:=by
 refine⟨.inr (.inl ⟨r,hr,rfl⟩),fun k hk=>?_⟩
 simp only [List.mem_cons,List.not_mem_nil,or_false] at hk
 rcases hk with rfl | rfl | rfl | rfl | rfl | rfl | rfl <;> (unfold mf;simp)
theorem RX {r:Int}(hr:r=6∨r=7):sx (GN r)∧∀k∈GN r,mf k.n:=by
 refine⟨.inr (.inr ⟨r,hr,rfl⟩),fun k hk=>?_⟩
 simp only [List.mem_cons,List.not_mem_nil,or_false] at hk
 rcases hk with rfl | rfl | rfl | rfl | rfl | rfl | rfl | rfl <;> (unfold mf;simp)
section
variable {w0:bo}{L M:List bd}{K:KV}{F:World→Prop}{C:bd→List bd}{b:Nat}{v:Value}
theorem Lb {r n x:Int}(hK:∀s:kx,G w0 (sl gD s.v (GH r n x)::L) (K (.agg #[s.v]))):G w0 L (CP Tryz.prog V4 [i64 r,u64 n,u64 x,.bool false] K):=by
 refine B6 ?_
 unfold uH
 refine G.new fun q=>?_
 refine gg ?_
 refine G.build gD (GH r n x) rfl (by decide) (by kernel_rfl) fun v hv=>?_
 refine G.isSl (v:=v) fun s hs=>?_
 subst hs
 refine gg ?_
 exact(hK s).sub
theorem Np {r n x:Int}(hK:∀s:kx,G w0 (sl gD s.v (NZ r)::L) (K (.agg #[s.v]))):G w0 L (CP Tryz.prog V4 [i64 r,u64 n,u64 x,.bool true] K):=by
 refine B6 ?_
 unfold uH
 refine G.new fun q=>?_
 refine gg ?_
 refine G.build gD (NZ r) rfl (by decide) (by kernel_rfl) fun v hv=>?_
 refine G.isSl (v:=v) fun s hs=>?_
 subst hs
 refine gg ?_
 exact(hK s).sub
theorem LB {r:Int}(hK:∀s:kx,G w0 (sl gD s.v (GN r)::L) (K (.agg #[s.v]))):G w0 L (CP Tryz.prog XO [i64 r] K):=by
 refine Lh ?_
 unfold Dr
 refine G.new fun q=>?_
 refine gg ?_
 refine G.build gD (GN r) rfl (by decide) (by kernel_rfl) fun v hv=>?_
 refine G.isSl (v:=v) fun s hs=>?_
 subst hs
 refine gg ?_
 exact(hK s).sub
theorem Jq {r n x:Int}{pop:Bool}(hr:r=6∨r=7)(h1:2≤n)(h2:n≤16)(hx:mf x)(hK:∀(s:kx)(p:List dv),(sx p∧∀k∈p,mf k.n)→G w0 (sl gD s.v p::L) (K (.agg #[s.v]))):G w0 L (CP Tryz.prog V4 [i64 r,u64 n,u64 x,.bool pop] K):=by
 cases pop
 ·exact Lb fun s=>hK s _ (Sa hr h1 h2 hx)
 ·exact Np fun s=>hK s _ (TN hr)
structure Ur (rows:List (List (List dv))):Prop where
 few:rows.length=3
 ok:∀r∈rows,r.length≤6∧∀p∈r,sx p∧∀k∈p,mf k.n
theorem Jc {α:Type}{l:List α}{k j:Nat}{y z:α}(h:(l.set k y)[j]? = some z):(j=k∧z=y)∨(j≠k∧l[j]? = some z):=by
 rw [List.getElem?_set] at h
 split at h
 ·rename_i e
  split at h
  ·exact .inl ⟨e.symm,(Option.some.inj h).symm⟩
  ·cases h
 ·rename_i e
  exact .inr ⟨fun g=>e g.symm,h⟩
instance {s:kx}:fQ eu [.slice s.a s.n s.c] s:=⟨rfl⟩
structure Vj (i:Nat)(l:List (kx×List (List dv))):Prop where
 n:i≤18∧l.length=3
 len:∀(k:Nat) (q:kx×List (List dv)),l[k]? = some q→q.2.length=(i+2-k) / 3
 ok:∀(k:Nat) (q:kx×List (List dv)),l[k]? = some q→∀p∈q.2,sx p∧∀j∈p,mf j.n
theorem HS {ks:List Int}[a:IZ w0 v EV ks](hk:∀k∈ks,0≤k∧k≤255)(hK:∀u rows,bf u [u]→Ur rows→G w0 (ob G7 u rows::L) (K u)):G w0 L (CP Tryz.prog Xy [v] K):=by
 refine Hu ?_
 unfold Ak
 refine G.make (n:=3) eu ⟨none,0,0⟩ rfl (by simp [maxLen]) (by omega) fun u hu=>?_
 have hnil:∀{M:List bd} {F:World→Prop},G w0 (qP (⟨none,0,0⟩,[])::M) F→G w0 M F:=fun H=>by
  refine lI (f:=pR) ?_
  refine G.nilsl eu ?_
  exact Da (.slice none 0 0) [] (ps:=[]) (rs:=[]) rfl rfl H
 refine lI (f:=qP) ?_
 refine hnil ?_
 rw [←iU]
 refine hnil ?_
 rw [←iU]
 refine hnil ?_
 rw [←iU]
 show G w0 (ob (cd qP) () (List.replicate 3 ((⟨none,0,0⟩,[]):kx×List (List dv)))::sl eu u ((List.replicate 3 ((⟨none,0,0⟩,[]):kx×List (List dv))).map fun p=>p.1)::L) _
 refine G.loop1 (σ:=Nat×List (kx×List (List dv))) (fun z=>i64 z.1) (fun z=>ob (cd qP) () z.2::sl eu u (z.2.map (·.1))::L) (fun z=>Vj z.1 z.2) (fun z=>18-z.1) (0,List.replicate 3 (⟨none,0,0⟩,[])) rfl rfl ⟨by simp,fun k q e=>?_,fun k q e=>?_⟩ ?_
 ·rw [List.eq_of_mem_replicate (List.mem_of_getElem? e)]
  have:=(List.getElem?_eq_some_iff.1 e).1
  simp only [List.length_replicate,List.length_nil] at this ⊢
  omega
 ·rw [List.eq_of_mem_replicate (List.mem_of_getElem? e)]
  simp
 rintro⟨i,l⟩ ⟨⟨hi,hl⟩,hlen,hok⟩ J hJ
 simp only at hi hl hlen hok hJ ⊢
 have hend:G w0 (ob (cd qP) () l::sl eu u (l.map (·.1))::L) (K u):=by
  refine Nb u l (ps:=l.map (·.1)) (rs:=l.map (·.2)) rfl rfl ?_
  refine(hK u (l.map (·.2)) hu ⟨by rw [List.length_map];exact hl,fun r hr=>?_⟩).sub
  obtain⟨q,hq,rfl⟩:=List.mem_map.1 hr
  obtain⟨k,hk⟩:=List.getElem?_of_mem hq
  exact⟨by rw [hlen k q hk];omega,hok k q hk⟩
 by_cases c:i<ks.length
 ·have c1:(i:Int)<ks.length:=by omega
  have e:fe ks i ks[i]:=⟨List.getElem?_eq_getElem c⟩
  have hkk:=hk _ (List.getElem_mem c)
  generalize ks[i]=k at e hkk
  refine gu ?_
  refine gf (eq_true c1) ?_
  refine G.cond (fun h3=>?_) (fun h3=>?_)
  ·have hi3:i<18:=by simp only [decide_eq_true_eq] at h3;omega
   have nz:iT (3:Int):=⟨by decide⟩
   have e0:k.fdiv (2 ^ min (2:Int).toNat IntKind.u8.bits)=k.fdiv 4:=rfl
   have e8:k.fdiv (2 ^ min (3:Int).toNat IntKind.u8.bits)=k.fdiv 8:=rfl
   have h1:=RC (a:=k.fdiv 4) (b:=1) rfl (by decide)
   have e1:IntKind.wrap .i64 (Ec (k.fdiv 4) 1)=Ec (k.fdiv 4) 1:=gh (by omega) (by omega)
   have e2:IntKind.wrap .i64 (6+Ec (k.fdiv 4) 1)=6+Ec (k.fdiv 4) 1:=gh (by omega) (by omega)
   have e3:IntKind.wrap .u64 ((IntKind.wrap .u64 ((k.fdiv 8).tmod 16)).tmod 15+2)=U3 k:=rfl
   have e4:IntKind.wrap .u64 (i:Int)=i:=CI (by omega) (by omega)
   have hsz:=TL k hkk.1
   have hr:6+Ec (k.fdiv 4) 1=6∨6+Ec (k.fdiv 4) 1=7:=by omega
   have hiu:mf (i:Int):=by unfold mf;omega
   obtain⟨kk,hkq⟩:∃kk:Nat,kk=i % 3:=⟨_,rfl⟩
   have hk3:kk<3:=by omega
   have ix:iQ ((i:Int).tmod 3) kk:=⟨by rw [hkq,Int.tmod_eq_emod_of_nonneg (by omega)];omega⟩
   obtain⟨q,hq⟩:∃q,l[kk]? = some q:=⟨_,List.getElem?_eq_getElem (by omega)⟩
   have el:fe (l.map (·.1)) kk q.1:=⟨by rw [List.getElem?_map,hq];rfl⟩
   have hq1:=hlen kk q hq
   repeat' (first | (with_reducible refine G.joini0 ?_) | (with_reducible refine G.joini1 ?_) | (with_reducible refine G.drew ?_) | (simp (maxSteps:=2000000) only [↓RG,RP,RB,BEq.rfl,Int.reduceEq,Int.reduceLT,Int.reduceLE,Nat.reduceEqDiff,Dl,e0,e8,e1,e2,e3,e4]))
   refine Jq hr hsz.1 hsz.2 hiu fun s1 p1 hp1=>?_
   repeat' (first | (with_reducible refine G.joini0 ?_) | (with_reducible refine G.joini1 ?_) | (with_reducible refine G.drew ?_) | (simp (maxSteps:=2000000) only [↓RG,RP,RB,BEq.rfl,Int.reduceEq,Int.reduceLT,Int.reduceLE,Nat.reduceEqDiff,Dl,e0,e8,e1,e2,e3,e4]))
   refine G.new fun q2=>?_
   have hrow:∀(sv:kx) (P:List dv),(sx P∧∀k∈P,mf k.n)→G w0 (own q2 [sv.v]::sl gD sv.v P::ob (cd qP) () l::sl eu u (l.map (·.1))::L)
     (ax [.slice none 0 0] 1 [(0,1,.agg #[sv.v])] (fun x36=>andP (andP (aa (ep u 1 kk 0) (fun v=>dO v q.1.v)) ad) (bw 1 24 q.1.v x36 (fun x37=>ch 1 u (.int .i64 ((i:Int).tmod 3)) (fun x38=>ah 1 x38 x37 (fun _=>J (.int .i64 (IntKind.wrap .i64 ((i:Int)+1))))))))):=by
    intro sv P hP
    refine G.build eu [sv] rfl (by decide) rfl fun y hy=>?_
    refine gg ?_
    refine G.take1 (cd qP) () ?_
    rw [ju hq,pI]
    intro l2 hl2
    have hl3:l2.length=q.2.length:=by rw [←hl2,List.length_map]
    refine G.append (E:=eu) (v:=q.1.v) (xs:=l2.map fun z:kx×List dv=>z.1) (ys:=[sv]) (by simp;omega) (by simp [maxLen];omega) fun u3 h3=>?_
    refine G.isSl (v:=u3) fun s3 e3=>?_
    subst e3
    refine gg ?_
    rw [dx (by omega)]
    have hn:=hJ (i+1,l.set kk (s3,q.2++[P])) ⟨⟨hi3,by simpa using hl⟩,fun j z hz=>?_,fun j z hz=>?_⟩ (by simp only;omega)
    ·simp only [List.map_set] at hn
     refine G.pickAll (As:=[pR (sv,P),ob (cd pR) () l2]) ?_
     rw [List.cons_append,List.cons_append,List.nil_append,←iU]
     refine Da s3.v (l2++[(sv,P)]) (ps:=(l2.map fun z:kx×List dv=>z.1)++[sv]) (rs:=q.2++[P]) (by simp) (by simp [hl2]) ?_
     refine G.pickAll (As:=[ob iu s3.v (q.2++[P]),ob (cd qP) () (l.eraseIdx kk)]) ?_
     rw [List.cons_append,List.cons_append,List.nil_append]
     refine Eq.mp (Na (f:=qP) (y:=(s3,q.2++[P])) (l:=l) (k:=kk) (by omega)) ?_
     exact hn.sub
    ·have hz3:=(List.getElem?_eq_some_iff.1 hz).1
     rw [List.length_set] at hz3
     rcases Jc hz with ⟨g1,g2⟩ | ⟨g1,g2⟩
     ·rw [g2,g1]
      show (q.2++[P]).length=_
      rw [List.length_append,List.length_singleton,hq1]
      omega
     ·rw [hlen j z g2]
      omega
    ·rcases Jc hz with ⟨g1,g2⟩ | ⟨g1,g2⟩
     ·rw [g2]
      intro p hp
      rcases List.mem_append.1 hp with g | g
      ·exact hok kk q hq p g
      ·rw [List.mem_singleton.1 g]
       exact hP
     ·exact hok j z g2
   by_cases c2:Ec k 3=2
   ·repeat' (first | (with_reducible refine G.joini0 ?_) | (with_reducible refine G.joini1 ?_) | (with_reducible refine G.drew ?_) | (simp (maxSteps:=2000000) only [↓RG,RP,RB,BEq.rfl,Int.reduceEq,Int.reduceLT,Int.reduceLE,Nat.reduceEqDiff,Dl,eq_true c2]))
    refine LB fun s2=>?_
    repeat' (first | (with_reducible refine G.joini0 ?_) | (with_reducible refine G.joini1 ?_) | (with_reducible refine G.drew ?_) | (simp (maxSteps:=2000000) only [↓RG,RP,RB,BEq.rfl,Int.reduceEq,Int.reduceLT,Int.reduceLE,Nat.reduceEqDiff,Dl]))
    exact(hrow s2 _ (RX hr)).sub
   ·repeat' (first | (with_reducible refine G.joini0 ?_) | (with_reducible refine G.joini1 ?_) | (with_reducible refine G.drew ?_) | (simp (maxSteps:=2000000) only [↓RG,RP,RB,BEq.rfl,Int.reduceEq,Int.reduceLT,Int.reduceLE,Nat.reduceEqDiff,Dl,c2]))
    exact(hrow s1 p1 hp1).sub
  ·repeat' (first | (with_reducible refine G.joini0 ?_) | (with_reducible refine G.joini1 ?_) | (with_reducible refine G.drew ?_) | (simp (maxSteps:=2000000) only [↓RG,RP,RB,BEq.rfl,Int.reduceEq,Int.reduceLT,Int.reduceLE,Nat.reduceEqDiff]))
   exact hend.sub
 ·have c1:¬(i:Int)<ks.length:=by omega
  refine gu ?_
  refine gf c1 ?_
  exact hend.sub
end
end Go.Proofs.YtoealglbimbbmaaGreatDoor.S
namespace Go.Proofs.YtoealglbimbbmaaGreatDoor.S
open Go Go.Proofs
set_option linter.unusedVariables false
set_option linter.unusedSimpArgs false
theorem EY (c:Int):ir c=0∨(2≤ir c∧ir c≤16):=by
 by_cases h:1≤c∧c≤4
 ·have:c=1∨c=2∨c=3∨c=4:=by omega
  rcases this with rfl | rfl | rfl | rfl
  ·rw [Mt];decide
  ·rw [M8];decide
  ·rw [ME];decide
  ·rw [M3];decide
 ·left;unfold ir;split
  ·rfl
  ·rw [if_pos (by omega)]
section
variable {w0:bo}{L M:List bd}{K:KV}{F:World→Prop}{C:bd→List bd}{b:Nat}{v:Value}{w:List Int}{H:Hp}{B R sh:List Bk}{fl:Int→List Int}
theorem jo {c:Int}(hK:G w0 L (K (i64 (ir c)))):G w0 L (CP Tryz.prog VK [i64 c] K):=by
 refine JN ?_
 unfold Cy
 unfold ir at hK
 refine gu ?_
 by_cases h1:c<1
 ·rw [if_pos h1] at hK
  refine eC h1 ?_
  exact hK
 rw [if_neg h1] at hK
 by_cases h2:4<c
 ·rw [if_pos h2] at hK
  refine eC (an h1 h2) ?_
  exact hK
 rw [if_neg h2] at hK
 have e:IntKind.wrap .u64 c=c:=CI (by omega) (by omega)
 have nn:br c:=⟨by omega⟩
 refine eC (an h1 (an h2 e)) ?_
 exact hK
theorem HK {n:Int}(h0:0≤n)(h1:n<2147483648)(hK:G w0 L (K (i64 n))):G w0 L (CP Tryz.prog Yo [u64 n] K):=by
 refine HG ?_
 unfold Av
 have c:¬(2147483648:Int)≤n:=by omega
 have e:IntKind.wrap .i64 n=n:=gh (by omega) (by omega)
 refine gf (an c e) ?_
 exact hK
theorem Fw {z:Int}[r:Rd w0 L v dd 1 w](h1:32≤w.length)(h2:w.length≤256)(hz:w[5]? = some z)(z1:14≤z)(z2:z≤256)(hK0:G w0 L (K (.tuple #[.slice none 0 0,.bool false])))
  (hK:∀u bl,bf u [u]→z≤w.length→bl.length≤256→G w0 (sl iR u bl::L) (K (.tuple #[u,.bool true]))):G w0 L (CP Tryz.prog X9 [v] K):=by
 refine F8 ?_
 unfold xO
 have a1:¬(w.length:Int)<32:=by omega
 have a2:¬(256:Int)<w.length:=by omega
 have a3:¬z<14:=by omega
 have e:fe w 5 z:=⟨hz⟩
 refine gu ?_
 refine gf (an a1 a2) ?_
 refine HK (by omega) (by omega) ?_
 by_cases c:(w.length:Int)<z
 ·refine gf (an a3 (eq_true c)) ?_
  exact hK0.sub
 refine gf (an a3 c) ?_
 refine G.nilsl iR ?_
 refine G.loop2 (σ:=Value×List vM×Nat) (fun y=>y.1) (fun y=>i64 y.2.2) (fun y=>sl iR y.1 y.2.1::L) (fun y=>bf y.1 [y.1]∧14+3*y.2.1.length≤y.2.2∧(y.2.2:Int)≤z) (fun y=>256-y.2.2) (.slice none 0 0,[],14) rfl rfl rfl ⟨bm,by simp,z1⟩ ?_
 rintro⟨u,bl,p⟩ ⟨hu,hl,hp⟩ J hJ
 simp only at hu hl hp hJ ⊢
 by_cases c2:(p:Int)<z
 ·have hpw:p<w.length:=by omega
  have ew:fe w p w[p]:=⟨List.getElem?_eq_getElem hpw⟩
  generalize w[p]=q at ew
  have e1:IntKind.wrap .i64 ((p:Int)+1)=((p+1:Nat):Int):=dx (by omega)
  by_cases c16:16<q
  ·refine gf (an (eq_true c2) e1) ?_
   refine G.new fun x=>?_
   refine gf (an (eq_true c2) (an e1 (eq_true c16))) ?_
   exact hK0.sub
  obtain⟨t,ht⟩:∃t,decide (8<q)=t:=⟨_,rfl⟩
  have key:∀X:Int,0<ir X→IntKind.wrap .i64 (((p+1:Nat):Int)+ir X)=((p+1+(ir X).toNat:Nat):Int):=fun X h=>by
   have:=EY X
   rw [gh (by omega) (by omega)];omega
  refine gf (an (eq_true c2) e1) ?_
  refine G.new fun x=>?_
  cases t
  ·have h8:¬8<q:=by simpa using ht
   repeat' (first | (with_reducible refine G.joini0 ?_) | (with_reducible refine G.joini1 ?_) | (with_reducible refine G.drew ?_) | (simp (maxSteps:=2000000) only [↓RG,RP,RB,BEq.rfl,Int.reduceEq,Int.reduceLT,Int.reduceLE,Nat.reduceEqDiff,e1,c16,h8]))
   refine jo ?_
   generalize IntKind.wrap .i64 q=X
   have hX:=EY X
   have hk:=key X
   by_cases c0:ir X=0
   ·refine gf (eq_true c0) ?_
    exact hK0.sub
   have hk:=hk (by omega)
   refine gf (an c0 e1) ?_
   refine jo ?_
   by_cases c5:z<((p+1+(ir X).toNat:Nat):Int)
   ·refine gf (an hk (eq_true c5)) ?_
    exact hK0.sub
   refine gf (an hk c5) ?_
   refine G.build iR [⟨((p+1:Nat):Int),X,false⟩] rfl (by decide) rfl fun y hy=>?_
   refine G.append (E:=iR) (xs:=bl) (ys:=[⟨((p+1:Nat):Int),X,false⟩]) (by simp;omega) (by simp [maxLen];omega) fun u2 hu2=>?_
   refine gf e1 ?_
   refine jo ?_
   refine gf hk ?_
   exact(hJ (u2,bl++[⟨((p+1:Nat):Int),X,false⟩],p+1+(ir X).toNat) ⟨hu2,by simp;omega,by simp only;omega⟩ (by simp only;omega)).sub
  ·have h8:8<q:=by simpa using ht
   repeat' (first | (with_reducible refine G.joini0 ?_) | (with_reducible refine G.joini1 ?_) | (with_reducible refine G.drew ?_) | (simp (maxSteps:=2000000) only [↓RG,RP,RB,BEq.rfl,Int.reduceEq,Int.reduceLT,Int.reduceLE,Nat.reduceEqDiff,e1,c16,eq_true h8]))
   refine jo ?_
   generalize IntKind.wrap .i64 (IntKind.wrap .i64 q-8)=X
   have hX:=EY X
   have hk:=key X
   by_cases c0:ir X=0
   ·refine gf (eq_true c0) ?_
    exact hK0.sub
   have hk:=hk (by omega)
   refine gf (an c0 e1) ?_
   refine jo ?_
   by_cases c5:z<((p+1+(ir X).toNat:Nat):Int)
   ·refine gf (an hk (eq_true c5)) ?_
    exact hK0.sub
   refine gf (an hk c5) ?_
   refine G.build iR [⟨((p+1:Nat):Int),X,true⟩] rfl (by decide) rfl fun y hy=>?_
   refine G.append (E:=iR) (xs:=bl) (ys:=[⟨((p+1:Nat):Int),X,true⟩]) (by simp;omega) (by simp [maxLen];omega) fun u2 hu2=>?_
   refine gf e1 ?_
   refine jo ?_
   refine gf hk ?_
   exact(hJ (u2,bl++[⟨((p+1:Nat):Int),X,true⟩],p+1+(ir X).toNat) ⟨hu2,by simp;omega,by simp only;omega⟩ (by simp only;omega)).sub
 ·refine gf c2 ?_
  exact(hK u bl hu (by omega) (by omega)).sub
abbrev BB (p:kx×List Int):bd:=sl bx p.1.v p.2
theorem R4 {l:List (kx×List Int)}{k:Nat}{q:kx×List Int}(h:l[k]? = some q):Rd w0 (ob (cd BB) () l::M) q.1.v bx 1 q.2:=by
 have e1:G w0 (ob (cd BB) () l::M) (fun w=>eZ bx w q.1.v q.2):=by
  rw [ju h]
  exact fun w H=>St.sl_is H
 exact⟨rfl,fun w H=>e1 w H⟩
theorem HR [r:Rd w0 L v dd 1 w](h1:32≤w.length)(h2:w.length≤256)(A:db H B R sh fl)(hw:∀d:Int,1≤d→d<(w.length:Int)→w.getD d.toNat 0=H d)
  (hK0:∀u,G w0 L (K (.tuple #[u,.bool false]))) (hK:∀u (l:List (kx×List Int)),bf u [u]→l.map (·.2)=[fl 1,fl 2,fl 3,fl 4]→(∀q∈l,q.2.length≤256)→G w0 (ob (cd BB) () l::sl eu u (l.map (·.1))::L) (K (.tuple #[u,.bool true]))):G w0 L (CP Tryz.prog XR [v] K):=by
 refine HT ?_
 unfold AN
 have htop:=A.top
 have hle:=wQ A.parted
 have hat:∀k:Nat,1≤k→k<w.length→w[k]? = some (H k):=fun k g1 g2=>by
  have:=hw k (by omega) (by omega)
  rw [List.getElem?_eq_getElem g2,←this,List.getD_eq_getElem?_getD,Int.toNat_natCast,List.getElem?_eq_getElem g2];rfl
 refine Fw h1 h2 (z:=H 5) (hat 5 (by omega) (by omega)) hle htop ?_ fun u bl hu hz hbl=>?_
 ·refine gg ?_
  exact(hK0 _).sub
 refine gu ?_
 refine gg ?_
 refine G.nilsl eu ?_
 refine lI (f:=BB) ?_
 refine G.loop2 (σ:=Value×Nat×List (kx×List Int)) (fun y=>y.1) (fun y=>i64 ((y.2.1:Int)+1)) (fun y=>ob (cd BB) () y.2.2::sl eu y.1 (y.2.2.map (·.1))::sl iR u bl::L) (fun y=>bf y.1 [y.1]∧y.2.1≤4∧y.2.2.map (·.2)=[fl 1,fl 2,fl 3,fl 4].take y.2.1∧∀q∈y.2.2,q.2.length≤256) (fun y=>4-y.2.1) (.slice none 0 0,0,[]) rfl rfl rfl ⟨bm,by simp only;omega,rfl,by simp⟩ ?_
 rintro⟨u5,k,l⟩ ⟨hu5,hk,hl,hlq⟩ J hJ
 simp only at hu5 hk hl hlq hJ ⊢
 have hll:l.length=k:=by have:=congrArg List.length hl;simp at this;omega
 by_cases h4:k<4
 ·have a1:(k:Int)+1≤4:=by omega
  have e1:IntKind.wrap .i64 (1+((k:Int)+1))=1+((k:Int)+1):=gh (by omega) (by omega)
  have e2:IntKind.wrap .i64 (1+((k:Int)+1)-1)=((k+1:Nat):Int):=by rw [gh (by omega) (by omega)];omega
  have ew:fe w (k+1) (H ((k+1:Nat):Int)):=⟨hat (k+1) (by omega) (by omega)⟩
  obtain⟨f1,f2,f3⟩:=A.free ((k+1:Nat):Int) (by omega) (by omega)
  obtain⟨fc,hfc⟩:∃fc,fl ((k+1:Nat):Int)=fc:=⟨_,rfl⟩
  rw [hfc] at f1 f2 f3
  have hnx:[fl 1,fl 2,fl 3,fl 4].take (k+1)=[fl 1,fl 2,fl 3,fl 4].take k++[fc]:=by
   have:k=0∨k=1∨k=2∨k=3:=by omega
   rcases this with rfl | rfl | rfl | rfl <;> (rw [←hfc];rfl)
  refine gf (an (eq_true a1) (an e1 e2)) ?_
  refine G.nilsl bx ?_
  refine G.loop2 (σ:=Value×Int×List Int×List Int) (fun y=>y.1) (fun y=>u64 y.2.1) (fun y=>sl bx y.1 y.2.2.1::ob (cd BB) () l::sl eu u5 (l.map (·.1))::sl iR u bl::L) (fun y=>bf y.1 [y.1]∧Fl H y.2.1 y.2.2.2∧y.2.2.1++y.2.2.2=fc) (fun y=>y.2.2.2.length) (.slice none 0 0,H ((k+1:Nat):Int),[],fc) rfl rfl rfl ⟨bm,f1,rfl⟩ ?_
  rintro⟨u6,a,dn,rs⟩ ⟨hu6,g1,g2⟩ J2 hJ2
  simp only at hu6 g1 g2 hJ2 ⊢
  have hdl:dn.length≤256:=by
   rw [←g2,List.nodup_append] at f2
   refine w7 256 dn f2.1 fun y hy=>?_
   have:=A.mem (f3 y (by rw [←g2];simp [hy])).1
   have h9:=gF (c:=((y,((k+1:Nat):Int)):Bk).2)
   omega
  cases rs with
  | nil =>
   have ha:a=0:=g1
   rw [List.append_nil] at g2
   subst g2
   refine gf (eq_true ha) ?_
   refine G.isSl (v:=u6) fun s6 es=>?_
   subst es
   refine G.build eu [s6] rfl (by decide) rfl fun y hy=>?_
   refine G.append (E:=eu) (v:=u5) (xs:=l.map fun z:kx×List Int=>z.1) (ys:=[s6]) (by simp;omega) (by simp [maxLen];omega) fun u7 hu7=>?_
   have eq:IntKind.wrap .i64 ((k:Int)+1+1)=((k+1:Nat):Int)+1:=by rw [gh (by omega) (by omega)];omega
   refine gf eq ?_
   have hn:=hJ (u7,k+1,l++[(s6,dn)]) ⟨hu7,h4,by rw [List.map_append,hl,hnx];rfl,fun q hq=>by
    rcases List.mem_append.1 hq with g | g
    ·exact hlq q g
    ·rw [List.mem_singleton.1 g];exact hdl⟩ (by simp only;omega)
   simp only [List.map_append,List.map_cons,List.map_nil] at hn
   rw [iU] at hn
   exact hn.sub
  | cons bb rs =>
   obtain⟨rfl,hb0,g6⟩:=g1
   have hm:=A.mem (f3 a (by rw [←g2];simp)).1
   have hbz:=gF (c:=((k+1:Nat):Int))
   simp only at hm
   refine gf hb0 ?_
   refine G.loop2 (σ:=Bool×Nat) (fun y=>.bool y.1) (fun y=>i64 y.2) (fun _=>sl bx u6 dn::ob (cd BB) () l::sl eu u5 (l.map (·.1))::sl iR u bl::L) (fun y=>y.2≤bl.length) (fun y=>bl.length-y.2) (false,0) rfl rfl rfl (Nat.zero_le _) ?_
   rintro⟨t,i⟩ hi J3 hJ3
   simp only at hi hJ3 ⊢
   by_cases c3:i<bl.length
   ·have c4:(i:Int)<bl.length:=by omega
    have ei:=cw c3
    have hst:∀t',G w0 (sl bx u6 dn::ob (cd BB) () l::sl eu u5 (l.map (·.1))::sl iR u bl::L) (J3 (.bool t') (i64 (IntKind.wrap .i64 ((i:Int)+1)))):=fun t'=>by
     rw [dx (by omega)]
     exact hJ3 (t',i+1) c3 (by simp only;omega)
    generalize bl[i]=y at ei
    obtain⟨y1,y2,y3⟩:=y
    by_cases d1:IntKind.wrap .u64 y1=a
    ·by_cases d2:y2=(k:Int)+1
     ·cases y3
      ·refine gf (an (eq_true c4) (an (eq_true d1) (eq_true d2))) ?_
       exact(hst _).sub
      ·refine gf (an (eq_true c4) (an (eq_true d1) (eq_true d2))) ?_
       exact(hst _).sub
     ·refine gf (an (eq_true c4) (an (eq_true d1) d2)) ?_
      exact(hst _).sub
    ·refine gf (an (eq_true c4) d1) ?_
     exact(hst _).sub
   ·have c4:¬(i:Int)<bl.length:=by omega
    refine gf c4 ?_
    refine G.loop2 (σ:=Bool×Nat) (fun y=>.bool y.1) (fun y=>i64 y.2) (fun _=>sl bx u6 dn::ob (cd BB) () l::sl eu u5 (l.map (·.1))::sl iR u bl::L) (fun y=>y.2≤dn.length) (fun y=>dn.length-y.2) (t,0) rfl rfl rfl (Nat.zero_le _) ?_
    rintro⟨t2,j⟩ hj J4 hJ4
    simp only at hj hJ4 ⊢
    by_cases c5:j<dn.length
    ·have c6:(j:Int)<dn.length:=by omega
     have ej:=cw c5
     have hst:∀t',G w0 (sl bx u6 dn::ob (cd BB) () l::sl eu u5 (l.map (·.1))::sl iR u bl::L) (J4 (.bool t') (i64 (IntKind.wrap .i64 ((j:Int)+1)))):=fun t'=>by
      rw [dx (by omega)]
      exact hJ4 (t',j+1) c5 (by simp only;omega)
     generalize dn[j]=y at ej
     by_cases d1:IntKind.wrap .u64 y=a
     ·refine gf (an (eq_true c6) (eq_true d1)) ?_
      exact(hst _).sub
     ·refine gf (an (eq_true c6) d1) ?_
      exact(hst _).sub
    ·have c6:¬(j:Int)<dn.length:=by omega
     cases t2
     ·refine gf c6 ?_
      exact(hK0 _).sub
     ·have ea:IntKind.wrap .i64 a=a:=gh (by omega) (by omega)
      have ix:iQ a a.toNat:=⟨by omega⟩
      have ew2:fe w a.toNat (H a):=⟨by rw [hat a.toNat (by omega) (by omega)];congr 2;omega⟩
      refine gf (an c6 ea) ?_
      refine G.build bx [a] rfl (by decide) rfl fun y hy=>?_
      refine G.append (E:=bx) (v:=u6) (xs:=dn) (ys:=[a]) (by simp;omega) (by simp [maxLen];omega) fun u7 hu7=>?_
      refine gf ea ?_
      exact(hJ2 (u7,H a,dn++[a],rs) ⟨hu7,g6,by rw [←g2];simp⟩ (by simp)).sub
 ·have a1:¬(k:Int)+1≤4:=by omega
  have hk4:k=4:=by omega
  subst hk4
  refine gf a1 ?_
  exact(hK u5 l hu5 hl hlq).sub
theorem Ij {o:pD}[r:Rd w0 L v dd 1 w](h1:32≤w.length)(h2:w.length≤256)(A:db H B R sh fl)(hw:∀d:Int,1≤d→d<(w.length:Int)→w.getD d.toNat 0=H d)
  (hs:o.kind=1∨o.kind=2→∀c,1≤c→c≤4→∀b∈fl c,¬(b<o.place∧o.place<b+yE c)) (hK:G w0 L (K (.bool true))):G w0 L (CP Tryz.prog XB [v,.agg (pD.cells o).toArray] K):=by
 refine II ?_
 unfold Af
 refine G.box fun p=>?_
 refine gu ?_
 refine HR h1 h2 A hw (fun u=>?_) fun u l hu hl hlq=>?_
 ·refine gg ?_
  exact hK.sub
 by_cases hk:o.kind=1∨o.kind=2
 ·have hs:=hs hk
  have hll:l.length=4:=by have:=congrArg List.length hl;simpa using this
  have hwl:∀k:Nat,k<4→∀q,l[k]? = some q→q.2=fl ((k+1:Nat):Int):=fun k hk q hq=>by
   have h3:(l.map (·.2))[k]? = some q.2:=by rw [List.getElem?_map,hq];rfl
   rw [hl] at h3
   have:k=0∨k=1∨k=2∨k=3:=by omega
   rcases this with rfl | rfl | rfl | rfl <;> (have h4:=Option.some.inj h3;exact h4.symm)
  have hks:(decide (o.kind=1)=true∧decide (o.kind=2)=false)∨(decide (o.kind=1)=false∧decide (o.kind=2)=true):=by
   rcases hk with g | g
   ·exact .inl ⟨decide_eq_true g,decide_eq_false (by omega)⟩
   ·exact .inr ⟨decide_eq_false (by omega),decide_eq_true g⟩
  rcases hks with ⟨k1,k2⟩ | ⟨k1,k2⟩
  all_goals refine gf (an k1 k2) ?_
  all_goals
   refine G.loop1 (σ:=Nat) (fun z=>i64 z) (fun _=>ob (cd BB) () l::sl eu u (l.map (·.1))::own p (pD.cells o)::L) (fun z=>z≤4) (fun z=>4-z) 0 rfl rfl (Nat.zero_le _) ?_
   intro c hc J hJ
   by_cases c1:c<4
   ·have c2:(c:Int)<(l.map (·.1)).length:=by rw [List.length_map];omega
    rcases hq:l[c] with ⟨s,row⟩
    have hq2:l[c]? = some (s,row):=by rw [List.getElem?_eq_getElem (by omega),hq]
    have ec:fe (l.map (·.1)) c s:=⟨by rw [List.getElem?_map,hq2];rfl⟩
    have hrow:row=fl ((c+1:Nat):Int):=hwl c c1 _ hq2
    have hrl:=hlq _ (List.mem_of_getElem? hq2)
    have rr:=R4 (w0:=w0) (M:=sl eu u (l.map (·.1))::own p (pD.cells o)::L) hq2
    simp only at hrl rr
    have ew:IntKind.wrap .i64 ((c:Int)+1)=((c+1:Nat):Int):=dx (by omega)
    refine gf (eq_true c2) ?_
    refine G.loop1 (σ:=Nat) (fun z=>i64 z) (fun _=>ob (cd BB) () l::sl eu u (l.map (·.1))::own p (pD.cells o)::L) (fun z=>z≤row.length) (fun z=>row.length-z) 0 rfl rfl (Nat.zero_le _) ?_
    intro j hj J2 hJ2
    by_cases d1:j<row.length
    ·have d2:(j:Int)<row.length:=by omega
     have ej:=cw d1
     have hin:row[j]∈fl ((c+1:Nat):Int):=by rw [←hrow];exact List.getElem_mem d1
     have hno:=hs ((c+1:Nat):Int) (by omega) (by omega) row[j] hin
     have hm:=A.mem ((A.free ((c+1:Nat):Int) (by omega) (by omega)).2.2 _ hin).1
     simp only at hm
     have hbz:=gF (c:=((c+1:Nat):Int))
     generalize row[j]=y at ej hno hm
     have hst:G w0 (ob (cd BB) () l::sl eu u (l.map (·.1))::own p (pD.cells o)::L) (J2 (i64 (IntKind.wrap .i64 ((j:Int)+1)))):=by
      rw [dx (by omega)]
      exact hJ2 (j+1) d1 (by omega)
     have ey:IntKind.wrap .i64 (y+yE ((c+1:Nat):Int))=y+yE ((c+1:Nat):Int):=gh (by omega) (by omega)
     by_cases g1:y<o.place
     ·have g2:¬o.place<y+yE ((c+1:Nat):Int):=fun g=>hno ⟨g1,g⟩
      repeat' (first | (with_reducible refine G.joini0 ?_) | (with_reducible refine G.joini1 ?_) | (with_reducible refine G.drew ?_) | (simp (maxSteps:=2000000) only [↓RG,RP,RB,BEq.rfl,Int.reduceEq,Int.reduceLT,Int.reduceLE,Nat.reduceEqDiff,eq_true d2,eq_true g1,ew]))
      refine jo ?_
      rw [Ed (by omega) (by omega)]
      refine gf (an ey g2) ?_
      exact hst.sub
     ·repeat' (first | (with_reducible refine G.joini0 ?_) | (with_reducible refine G.joini1 ?_) | (with_reducible refine G.drew ?_) | (simp (maxSteps:=2000000) only [↓RG,RP,RB,BEq.rfl,Int.reduceEq,Int.reduceLT,Int.reduceLE,Nat.reduceEqDiff,eq_true d2,g1]))
      exact hst.sub
    ·have d2:¬(j:Int)<row.length:=by omega
     refine gf (an d2 ew) ?_
     exact(hJ (c+1) c1 (by omega)).sub
   ·have c2:¬(c:Int)<(l.map (·.1)).length:=by rw [List.length_map];omega
    refine gf c2 ?_
    exact hK.sub
 ·have k1:¬o.kind=1:=fun g=>hk (.inl g)
  have k2:¬o.kind=2:=fun g=>hk (.inr g)
  refine gf (an k1 k2) ?_
  exact hK.sub
end
end Go.Proofs.YtoealglbimbbmaaGreatDoor.S
