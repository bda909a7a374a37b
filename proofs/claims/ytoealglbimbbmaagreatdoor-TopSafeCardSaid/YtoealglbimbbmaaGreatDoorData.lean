import Derived.Test.YtoealglbimbbmaaGreatDoorSl
import Derived.Test.YtoealglbimbbmaaGreatDoorNest
namespace Go.Proofs.YtoealglbimbbmaaGreatDoor.S
open Go Go.Proofs
set_option linter.unusedVariables false
set_option linter.unusedSimpArgs false
abbrev dd:jY Int:=⟨1,fun n=>[u64 n],fun | [.int .u64 n]=>some n | _=>none,by decide,fun _=>rfl,by simp [one],fun cs a h=>by split at h <;> simp_all⟩
instance {n:Int}:fk dd n [u64 n]:=⟨rfl⟩
instance {n:Int}:fQ dd [u64 n] n:=⟨rfl⟩
abbrev bx:jY Int:=⟨1,fun n=>[i64 n],fun | [.int .i64 n]=>some n | _=>none,by decide,fun _=>rfl,by simp [one],fun cs a h=>by split at h <;> simp_all⟩
instance {n:Int}:fk bx n [i64 n]:=⟨rfl⟩
instance {n:Int}:fQ bx [i64 n] n:=⟨rfl⟩
abbrev EV:jY Int:=⟨1,fun n=>[.int .u8 n],fun | [.int .u8 n]=>some n | _=>none,by decide,fun _=>rfl,by simp [one],fun cs a h=>by split at h <;> simp_all⟩
instance {n:Int}:fk EV n [.int .u8 n]:=⟨rfl⟩
instance {n:Int}:fQ EV [.int .u8 n] n:=⟨rfl⟩
abbrev SQ:jY Bool:=⟨1,fun n=>[.bool n],fun | [.bool n]=>some n | _=>none,by decide,fun _=>rfl,by simp [one],fun cs a h=>by split at h <;> simp_all⟩
instance {n:Bool}:fk SQ n [.bool n]:=⟨rfl⟩
instance {n:Bool}:fQ SQ [.bool n] n:=⟨rfl⟩
abbrev i0:jY Nat:=⟨1,fun b=>[ptr b 0],fun | [.pointer (some ⟨b,0,none⟩)]=>some b | _=>none,by decide,fun _=>rfl,by simp [one],fun cs a h=>by split at h <;> simp_all⟩
instance {b:Nat}:fk i0 b [ptr b 0]:=⟨rfl⟩
instance {b:Nat}:fQ i0 [ptr b 0] b:=⟨rfl⟩
theorem PO {cs:List Value}(h:good [.i .u8] cs):∃a:Int,EV.enc a=cs:=by
 obtain⟨x,l,e,_,g⟩:=pO h
 have:=Eb g
 exact⟨x,by subst this;subst e;rfl⟩
structure kx where
 a:Option Addr
 n:Nat
 c:Nat
abbrev kx.v (s:kx):Value:=.slice s.a s.n s.c
theorem HH {α:Type}(E:jY α){Gd:List Value→Prop}(Q:α→Prop)(hE:∀cs,Gd cs→∃a,E.enc a=cs∧Q a){w:World}{v:Value}{n:Nat}(h:Pp E.sz Gd w v n):∃xs:List α,IZ (bo.of w) v E xs∧(∀x∈xs,Q x)∧xs.length=n:=by
 obtain⟨oa,cap,rfl,h2,h3⟩:=h
 have:∀m,m≤n→∃xs:List α,xs.length=m∧(∀x∈xs,Q x)∧∀i x,xs[i]? = some x→∃e o cs,oa=some ⟨e,o,none⟩∧mem w e=some cs∧o+(i+1)*E.sz≤cs.length∧(cs.drop (o+i*E.sz)).take E.sz=E.enc x:=by
  intro m
  induction m with
  | zero=>exact fun _=>⟨[],rfl,by simp,by simp⟩
  | succ m ih =>
   intro hm
   obtain⟨xs,hl,hq,hx⟩:=ih (by omega)
   obtain⟨e,o,cs,g1,g3,g4,g5⟩:=h3 m (by omega)
   obtain⟨a,ha,hqa⟩:=hE _ g5
   refine⟨xs++[a],by simp [hl],fun x hx=>?_,fun i x hi=>?_⟩
   ·rcases List.mem_append.1 hx with h | h
    ·exact hq x h
    ·rw [List.mem_singleton.1 h];exact hqa
   rcases Nat.lt_or_ge i xs.length with hlt | hge
   ·rw [List.getElem?_append_left hlt] at hi
    exact hx i x hi
   ·rw [List.getElem?_append_right hge] at hi
    have:i=m:=by
     rcases Nat.lt_or_ge (i-xs.length) 1 with h1 | h1
     ·omega
     ·rw [List.getElem?_eq_none (by simpa using h1)] at hi;cases hi
    subst this
    rw [hl,Nat.sub_self] at hi
    cases hi
    exact⟨e,o,cs,g1,g3,g4,ha.symm⟩
 obtain⟨xs,hl,hq,hx⟩:=this n (Nat.le_refl n)
 refine⟨xs,⟨oa,cap,by rw [hl],fun h=>⟨?_,(h2 h).2⟩,hx⟩,hq,hl⟩
 exact List.eq_nil_of_length_eq_zero (by rw [hl];exact(h2 h).1)
structure cX where
 version:Int
 held:Bool
 owner:Int
 deriving DecidableEq
abbrev cX.cells (a:cX):List Value:=[u64 a.version,.bool a.held,i64 a.owner]
abbrev Ve:List CK:=[.i .u64,.b,.i .i64]
abbrev lw:jY cX:=⟨3,cX.cells,fun | [.int .u64 x0,.bool x1,.int .i64 x2]=>some ⟨x0,x1,x2⟩ | _=>none,by decide,fun _=>rfl,by simp [one],fun cs a h=>by split at h <;> cases h;rfl⟩
instance {a:cX}:fk lw a [u64 a.version,.bool a.held,i64 a.owner]:=⟨rfl⟩
instance {x0:Int}{x1:Bool}{x2:Int}:fQ lw [u64 x0,.bool x1,i64 x2] ⟨x0,x1,x2⟩:=⟨rfl⟩
theorem cX.eqb (a b:cX):(decide (a.version=b.version) && ((a.held == b.held) && decide (a.owner=b.owner)))=decide (a=b):=by
 obtain⟨x0,x1,x2⟩:=a
 obtain⟨y0,y1,y2⟩:=b
 rw [Bool.eq_iff_iff]
 simp [and_assoc]
structure fG where
 stripe:Int
 version:Int
 deriving DecidableEq
abbrev fG.cells (a:fG):List Value:=[i64 a.stripe,u64 a.version]
abbrev Td:List CK:=[.i .i64,.i .u64]
abbrev fX:jY fG:=⟨2,fG.cells,fun | [.int .i64 x0,.int .u64 x1]=>some ⟨x0,x1⟩ | _=>none,by decide,fun _=>rfl,by simp [one],fun cs a h=>by split at h <;> cases h;rfl⟩
instance {a:fG}:fk fX a [i64 a.stripe,u64 a.version]:=⟨rfl⟩
instance {x0:Int}{x1:Int}:fQ fX [i64 x0,u64 x1] ⟨x0,x1⟩:=⟨rfl⟩
theorem fG.eqb (a b:fG):(decide (a.stripe=b.stripe) && decide (a.version=b.version))=decide (a=b):=by
 obtain⟨x0,x1⟩:=a
 obtain⟨y0,y1⟩:=b
 rw [Bool.eq_iff_iff]
 simp [and_assoc]
structure av where
 place:Int
 word:Int
 deriving DecidableEq
abbrev av.cells (a:av):List Value:=[i64 a.place,u64 a.word]
abbrev IM:List CK:=[.i .i64,.i .u64]
abbrev bk:jY av:=⟨2,av.cells,fun | [.int .i64 x0,.int .u64 x1]=>some ⟨x0,x1⟩ | _=>none,by decide,fun _=>rfl,by simp [one],fun cs a h=>by split at h <;> cases h;rfl⟩
instance {a:av}:fk bk a [i64 a.place,u64 a.word]:=⟨rfl⟩
instance {x0:Int}{x1:Int}:fQ bk [i64 x0,u64 x1] ⟨x0,x1⟩:=⟨rfl⟩
theorem av.eqb (a b:av):(decide (a.place=b.place) && decide (a.word=b.word))=decide (a=b):=by
 obtain⟨x0,x1⟩:=a
 obtain⟨y0,y1⟩:=b
 rw [Bool.eq_iff_iff]
 simp [and_assoc]
structure gC where
 place:Int
 stamp:Int
 deriving DecidableEq
abbrev gC.cells (a:gC):List Value:=[i64 a.place,u64 a.stamp]
abbrev Va:List CK:=[.i .i64,.i .u64]
abbrev ct:jY gC:=⟨2,gC.cells,fun | [.int .i64 x0,.int .u64 x1]=>some ⟨x0,x1⟩ | _=>none,by decide,fun _=>rfl,by simp [one],fun cs a h=>by split at h <;> cases h;rfl⟩
instance {a:gC}:fk ct a [i64 a.place,u64 a.stamp]:=⟨rfl⟩
instance {x0:Int}{x1:Int}:fQ ct [i64 x0,u64 x1] ⟨x0,x1⟩:=⟨rfl⟩
theorem gC.eqb (a b:gC):(decide (a.place=b.place) && decide (a.stamp=b.stamp))=decide (a=b):=by
 obtain⟨x0,x1⟩:=a
 obtain⟨y0,y1⟩:=b
 rw [Bool.eq_iff_iff]
 simp [and_assoc]
structure Eg where
 key:Int
 val:Int
 deriving DecidableEq
abbrev Eg.cells (a:Eg):List Value:=[u64 a.key,u64 a.val]
abbrev Vc:List CK:=[.i .u64,.i .u64]
abbrev Pr:jY Eg:=⟨2,Eg.cells,fun | [.int .u64 x0,.int .u64 x1]=>some ⟨x0,x1⟩ | _=>none,by decide,fun _=>rfl,by simp [one],fun cs a h=>by split at h <;> cases h;rfl⟩
instance {a:Eg}:fk Pr a [u64 a.key,u64 a.val]:=⟨rfl⟩
instance {x0:Int}{x1:Int}:fQ Pr [u64 x0,u64 x1] ⟨x0,x1⟩:=⟨rfl⟩
theorem Eg.eqb (a b:Eg):(decide (a.key=b.key) && decide (a.val=b.val))=decide (a=b):=by
 obtain⟨x0,x1⟩:=a
 obtain⟨y0,y1⟩:=b
 rw [Bool.eq_iff_iff]
 simp [and_assoc]
structure vM where
 place:Int
 class_:Int
 live:Bool
 deriving DecidableEq
abbrev vM.cells (a:vM):List Value:=[i64 a.place,i64 a.class_,.bool a.live]
abbrev U2:List CK:=[.i .i64,.i .i64,.b]
abbrev iR:jY vM:=⟨3,vM.cells,fun | [.int .i64 x0,.int .i64 x1,.bool x2]=>some ⟨x0,x1,x2⟩ | _=>none,by decide,fun _=>rfl,by simp [one],fun cs a h=>by split at h <;> cases h;rfl⟩
instance {a:vM}:fk iR a [i64 a.place,i64 a.class_,.bool a.live]:=⟨rfl⟩
instance {x0:Int}{x1:Int}{x2:Bool}:fQ iR [i64 x0,i64 x1,.bool x2] ⟨x0,x1,x2⟩:=⟨rfl⟩
theorem vM.eqb (a b:vM):(decide (a.place=b.place) && (decide (a.class_=b.class_) && (a.live == b.live)))=decide (a=b):=by
 obtain⟨x0,x1,x2⟩:=a
 obtain⟨y0,y1,y2⟩:=b
 rw [Bool.eq_iff_iff]
 simp [and_assoc]
structure pD where
 kind:Int
 place:Int
 old:Int
 word:Int
 was:cX
 lock:cX
 deriving DecidableEq
abbrev pD.cells (a:pD):List Value:=[i64 a.kind,i64 a.place,u64 a.old,u64 a.word,u64 a.was.version,.bool a.was.held,i64 a.was.owner,u64 a.lock.version,.bool a.lock.held,i64 a.lock.owner]
abbrev U7:List CK:=[.i .i64,.i .i64,.i .u64,.i .u64,.i .u64,.b,.i .i64,.i .u64,.b,.i .i64]
abbrev TS:jY pD:=⟨10,pD.cells,fun | [.int .i64 x0,.int .i64 x1,.int .u64 x2,.int .u64 x3,.int .u64 x4,.bool x5,.int .i64 x6,.int .u64 x7,.bool x8,.int .i64 x9]=>some ⟨x0,x1,x2,x3,⟨x4,x5,x6⟩,⟨x7,x8,x9⟩⟩ | _=>none,by decide,fun _=>rfl,by simp [one],fun cs a h=>by split at h <;> cases h;rfl⟩
instance {a:pD}:fk TS a [i64 a.kind,i64 a.place,u64 a.old,u64 a.word,u64 a.was.version,.bool a.was.held,i64 a.was.owner,u64 a.lock.version,.bool a.lock.held,i64 a.lock.owner]:=⟨rfl⟩
instance {x0:Int}{x1:Int}{x2:Int}{x3:Int}{x4:Int}{x5:Bool}{x6:Int}{x7:Int}{x8:Bool}{x9:Int}:fQ TS [i64 x0,i64 x1,u64 x2,u64 x3,u64 x4,.bool x5,i64 x6,u64 x7,.bool x8,i64 x9] ⟨x0,x1,x2,x3,⟨x4,x5,x6⟩,⟨x7,x8,x9⟩⟩:=⟨rfl⟩
theorem pD.eqb (a b:pD):(decide (a.kind=b.kind) && (decide (a.place=b.place) && (decide (a.old=b.old) && (decide (a.word=b.word) && (decide (a.was.version=b.was.version) && ((a.was.held == b.was.held) && (decide (a.was.owner=b.was.owner) && (decide (a.lock.version=b.lock.version) && ((a.lock.held == b.lock.held) && decide (a.lock.owner=b.lock.owner))))))))))=decide (a=b):=by
 obtain⟨x0,x1,x2,x3,⟨x4,x5,x6⟩,⟨x7,x8,x9⟩⟩:=a
 obtain⟨y0,y1,y2,y3,⟨y4,y5,y6⟩,⟨y7,y8,y9⟩⟩:=b
 rw [Bool.eq_iff_iff]
 simp [and_assoc]
structure eW where
 word:Int
 lock:cX
 done:Bool
 err:Int
 deriving DecidableEq
abbrev eW.cells (a:eW):List Value:=[u64 a.word,u64 a.lock.version,.bool a.lock.held,i64 a.lock.owner,.bool a.done,i64 a.err]
abbrev Vt:List CK:=[.i .u64,.i .u64,.b,.i .i64,.b,.i .i64]
abbrev S2:jY eW:=⟨6,eW.cells,fun | [.int .u64 x0,.int .u64 x1,.bool x2,.int .i64 x3,.bool x4,.int .i64 x5]=>some ⟨x0,⟨x1,x2,x3⟩,x4,x5⟩ | _=>none,by decide,fun _=>rfl,by simp [one],fun cs a h=>by split at h <;> cases h;rfl⟩
instance {a:eW}:fk S2 a [u64 a.word,u64 a.lock.version,.bool a.lock.held,i64 a.lock.owner,.bool a.done,i64 a.err]:=⟨rfl⟩
instance {x0:Int}{x1:Int}{x2:Bool}{x3:Int}{x4:Bool}{x5:Int}:fQ S2 [u64 x0,u64 x1,.bool x2,i64 x3,.bool x4,i64 x5] ⟨x0,⟨x1,x2,x3⟩,x4,x5⟩:=⟨rfl⟩
theorem eW.eqb (a b:eW):(decide (a.word=b.word) && (decide (a.lock.version=b.lock.version) && ((a.lock.held == b.lock.held) && (decide (a.lock.owner=b.lock.owner) && ((a.done == b.done) && decide (a.err=b.err))))))=decide (a=b):=by
 obtain⟨x0,⟨x1,x2,x3⟩,x4,x5⟩:=a
 obtain⟨y0,⟨y1,y2,y3⟩,y4,y5⟩:=b
 rw [Bool.eq_iff_iff]
 simp [and_assoc]
structure jw where
 words:Int
 stripes:Int
 wide:Int
 threads:Int
 start:Int
 deriving DecidableEq
abbrev jw.cells (a:jw):List Value:=[i64 a.words,i64 a.stripes,i64 a.wide,i64 a.threads,u64 a.start]
abbrev U0:List CK:=[.i .i64,.i .i64,.i .i64,.i .i64,.i .u64]
abbrev M5:jY jw:=⟨5,jw.cells,fun | [.int .i64 x0,.int .i64 x1,.int .i64 x2,.int .i64 x3,.int .u64 x4]=>some ⟨x0,x1,x2,x3,x4⟩ | _=>none,by decide,fun _=>rfl,by simp [one],fun cs a h=>by split at h <;> cases h;rfl⟩
instance {a:jw}:fk M5 a [i64 a.words,i64 a.stripes,i64 a.wide,i64 a.threads,u64 a.start]:=⟨rfl⟩
instance {x0:Int}{x1:Int}{x2:Int}{x3:Int}{x4:Int}:fQ M5 [i64 x0,i64 x1,i64 x2,i64 x3,u64 x4] ⟨x0,x1,x2,x3,x4⟩:=⟨rfl⟩
theorem jw.eqb (a b:jw):(decide (a.words=b.words) && (decide (a.stripes=b.stripes) && (decide (a.wide=b.wide) && (decide (a.threads=b.threads) && decide (a.start=b.start)))))=decide (a=b):=by
 obtain⟨x0,x1,x2,x3,x4⟩:=a
 obtain⟨y0,y1,y2,y3,y4⟩:=b
 rw [Bool.eq_iff_iff]
 simp [and_assoc]
structure Fi where
 sort:Int
 n:Int
 deriving DecidableEq
abbrev Fi.cells (a:Fi):List Value:=[i64 a.sort,u64 a.n]
abbrev Vq:List CK:=[.i .i64,.i .u64]
abbrev QT:jY Fi:=⟨2,Fi.cells,fun | [.int .i64 x0,.int .u64 x1]=>some ⟨x0,x1⟩ | _=>none,by decide,fun _=>rfl,by simp [one],fun cs a h=>by split at h <;> cases h;rfl⟩
instance {a:Fi}:fk QT a [i64 a.sort,u64 a.n]:=⟨rfl⟩
instance {x0:Int}{x1:Int}:fQ QT [i64 x0,u64 x1] ⟨x0,x1⟩:=⟨rfl⟩
theorem Fi.eqb (a b:Fi):(decide (a.sort=b.sort) && decide (a.n=b.n))=decide (a=b):=by
 obtain⟨x0,x1⟩:=a
 obtain⟨y0,y1⟩:=b
 rw [Bool.eq_iff_iff]
 simp [and_assoc]
structure tg where
 store:Bool
 place:Int
 v:Int
 deriving DecidableEq
abbrev tg.cells (a:tg):List Value:=[.bool a.store,i64 a.place,u64 a.v]
abbrev UU:List CK:=[.b,.i .i64,.i .u64]
abbrev JM:jY tg:=⟨3,tg.cells,fun | [.bool x0,.int .i64 x1,.int .u64 x2]=>some ⟨x0,x1,x2⟩ | _=>none,by decide,fun _=>rfl,by simp [one],fun cs a h=>by split at h <;> cases h;rfl⟩
instance {a:tg}:fk JM a [.bool a.store,i64 a.place,u64 a.v]:=⟨rfl⟩
instance {x0:Bool}{x1:Int}{x2:Int}:fQ JM [.bool x0,i64 x1,u64 x2] ⟨x0,x1,x2⟩:=⟨rfl⟩
theorem tg.eqb (a b:tg):((a.store == b.store) && (decide (a.place=b.place) && decide (a.v=b.v)))=decide (a=b):=by
 obtain⟨x0,x1,x2⟩:=a
 obtain⟨y0,y1,y2⟩:=b
 rw [Bool.eq_iff_iff]
 simp [and_assoc]
structure nk where
 kind:Int
 i:Int
 was:cX
 l:cX
 deriving DecidableEq
abbrev nk.cells (a:nk):List Value:=[i64 a.kind,i64 a.i,u64 a.was.version,.bool a.was.held,i64 a.was.owner,u64 a.l.version,.bool a.l.held,i64 a.l.owner]
abbrev Ts:List CK:=[.i .i64,.i .i64,.i .u64,.b,.i .i64,.i .u64,.b,.i .i64]
abbrev EG:jY nk:=⟨8,nk.cells,fun | [.int .i64 x0,.int .i64 x1,.int .u64 x2,.bool x3,.int .i64 x4,.int .u64 x5,.bool x6,.int .i64 x7]=>some ⟨x0,x1,⟨x2,x3,x4⟩,⟨x5,x6,x7⟩⟩ | _=>none,by decide,fun _=>rfl,by simp [one],fun cs a h=>by split at h <;> cases h;rfl⟩
instance {a:nk}:fk EG a [i64 a.kind,i64 a.i,u64 a.was.version,.bool a.was.held,i64 a.was.owner,u64 a.l.version,.bool a.l.held,i64 a.l.owner]:=⟨rfl⟩
instance {x0:Int}{x1:Int}{x2:Int}{x3:Bool}{x4:Int}{x5:Int}{x6:Bool}{x7:Int}:fQ EG [i64 x0,i64 x1,u64 x2,.bool x3,i64 x4,u64 x5,.bool x6,i64 x7] ⟨x0,x1,⟨x2,x3,x4⟩,⟨x5,x6,x7⟩⟩:=⟨rfl⟩
theorem nk.eqb (a b:nk):(decide (a.kind=b.kind) && (decide (a.i=b.i) && (decide (a.was.version=b.was.version) && ((a.was.held == b.was.held) && (decide (a.was.owner=b.was.owner) && (decide (a.l.version=b.l.version) && ((a.l.held == b.l.held) && decide (a.l.owner=b.l.owner))))))))=decide (a=b):=by
 obtain⟨x0,x1,⟨x2,x3,x4⟩,⟨x5,x6,x7⟩⟩:=a
 obtain⟨y0,y1,⟨y2,y3,y4⟩,⟨y5,y6,y7⟩⟩:=b
 rw [Bool.eq_iff_iff]
 simp [and_assoc]
structure qi where
 ripe:Bool
 stamp:Int
 blocks:kx
 slots:kx
abbrev qi.cells (a:qi):List Value:=[.bool a.ripe,u64 a.stamp,.slice a.blocks.a a.blocks.n a.blocks.c,.slice a.slots.a a.slots.n a.slots.c]
abbrev T7:List NK:=[.p .b,.p (.i .u64),.s [.i .i64],.s [.i .u64]]
abbrev Gl:jY qi:=⟨4,qi.cells,fun | [.bool x0,.int .u64 x1,.slice x2a x2n x2c,.slice x3a x3n x3c]=>some ⟨x0,x1,⟨x2a,x2n,x2c⟩,⟨x3a,x3n,x3c⟩⟩ | _=>none,by decide,fun _=>rfl,by simp [one],fun cs a h=>by split at h <;> cases h;rfl⟩
instance {a:qi}:fk Gl a [.bool a.ripe,u64 a.stamp,.slice a.blocks.a a.blocks.n a.blocks.c,.slice a.slots.a a.slots.n a.slots.c]:=⟨rfl⟩
instance {x0:Bool}{x1:Int}{x2a:Option Addr}{x2n x2c:Nat}{x3a:Option Addr}{x3n x3c:Nat}:fQ Gl [.bool x0,u64 x1,.slice x2a x2n x2c,.slice x3a x3n x3c] ⟨x0,x1,⟨x2a,x2n,x2c⟩,⟨x3a,x3n,x3c⟩⟩:=⟨rfl⟩
def qi.Q (w:bo)(a:qi):Prop:=(∃ys,IZ w a.blocks.v bx ys)∧(∃ys,IZ w a.slots.v dd ys)
structure yi where
 word:Int
 known:Bool
 deriving DecidableEq
abbrev yi.cells (a:yi):List Value:=[u64 a.word,.bool a.known]
abbrev Vn:List CK:=[.i .u64,.b]
abbrev pP:jY yi:=⟨2,yi.cells,fun | [.int .u64 x0,.bool x1]=>some ⟨x0,x1⟩ | _=>none,by decide,fun _=>rfl,by simp [one],fun cs a h=>by split at h <;> cases h;rfl⟩
instance {a:yi}:fk pP a [u64 a.word,.bool a.known]:=⟨rfl⟩
instance {x0:Int}{x1:Bool}:fQ pP [u64 x0,.bool x1] ⟨x0,x1⟩:=⟨rfl⟩
theorem yi.eqb (a b:yi):(decide (a.word=b.word) && (a.known == b.known))=decide (a=b):=by
 obtain⟨x0,x1⟩:=a
 obtain⟨y0,y1⟩:=b
 rw [Bool.eq_iff_iff]
 simp [and_assoc]
structure zo where
 c:kx
 f:kx
abbrev zo.cells (a:zo):List Value:=[.slice a.c.a a.c.n a.c.c,.slice a.f.a a.f.n a.f.c]
abbrev UX:List NK:=[.s IM,.s [.i .i64]]
abbrev Mp:jY zo:=⟨2,zo.cells,fun | [.slice x0a x0n x0c,.slice x1a x1n x1c]=>some ⟨⟨x0a,x0n,x0c⟩,⟨x1a,x1n,x1c⟩⟩ | _=>none,by decide,fun _=>rfl,by simp [one],fun cs a h=>by split at h <;> cases h;rfl⟩
instance {a:zo}:fk Mp a [.slice a.c.a a.c.n a.c.c,.slice a.f.a a.f.n a.f.c]:=⟨rfl⟩
instance {x0a:Option Addr}{x0n x0c:Nat}{x1a:Option Addr}{x1n x1c:Nat}:fQ Mp [.slice x0a x0n x0c,.slice x1a x1n x1c] ⟨⟨x0a,x0n,x0c⟩,⟨x1a,x1n,x1c⟩⟩:=⟨rfl⟩
def zo.Q (w:bo)(a:zo):Prop:=(∃ys,IZ w a.c.v bk ys)∧(∃ys,IZ w a.f.v bx ys)
structure mW where
 kind:Int
 place:Int
 v:Int
 cs:kx
abbrev mW.cells (a:mW):List Value:=[i64 a.kind,i64 a.place,u64 a.v,.slice a.cs.a a.cs.n a.cs.c]
abbrev TO:List NK:=[.p (.i .i64),.p (.i .i64),.p (.i .u64),.s IM]
abbrev Fk:jY mW:=⟨4,mW.cells,fun | [.int .i64 x0,.int .i64 x1,.int .u64 x2,.slice x3a x3n x3c]=>some ⟨x0,x1,x2,⟨x3a,x3n,x3c⟩⟩ | _=>none,by decide,fun _=>rfl,by simp [one],fun cs a h=>by split at h <;> cases h;rfl⟩
instance {a:mW}:fk Fk a [i64 a.kind,i64 a.place,u64 a.v,.slice a.cs.a a.cs.n a.cs.c]:=⟨rfl⟩
instance {x0:Int}{x1:Int}{x2:Int}{x3a:Option Addr}{x3n x3c:Nat}:fQ Fk [i64 x0,i64 x1,u64 x2,.slice x3a x3n x3c] ⟨x0,x1,x2,⟨x3a,x3n,x3c⟩⟩:=⟨rfl⟩
def mW.Q (w:bo)(a:mW):Prop:=(∃ys,IZ w a.cs.v bk ys)
structure mX where
 take:Bool
 c:av
 l:kx
abbrev mX.cells (a:mX):List Value:=[.bool a.take,i64 a.c.place,u64 a.c.word,.slice a.l.a a.l.n a.l.c]
abbrev Tz:List NK:=[.p .b,.p (.i .i64),.p (.i .u64),.s IM]
abbrev DB:jY mX:=⟨4,mX.cells,fun | [.bool x0,.int .i64 x1,.int .u64 x2,.slice x3a x3n x3c]=>some ⟨x0,⟨x1,x2⟩,⟨x3a,x3n,x3c⟩⟩ | _=>none,by decide,fun _=>rfl,by simp [one],fun cs a h=>by split at h <;> cases h;rfl⟩
instance {a:mX}:fk DB a [.bool a.take,i64 a.c.place,u64 a.c.word,.slice a.l.a a.l.n a.l.c]:=⟨rfl⟩
instance {x0:Bool}{x1:Int}{x2:Int}{x3a:Option Addr}{x3n x3c:Nat}:fQ DB [.bool x0,i64 x1,u64 x2,.slice x3a x3n x3c] ⟨x0,⟨x1,x2⟩,⟨x3a,x3n,x3c⟩⟩:=⟨rfl⟩
def mX.Q (w:bo)(a:mX):Prop:=(∃ys,IZ w a.l.v bk ys)
structure DW where
 me:Int
 spins:Int
 stamp:Int
 seen:kx
 cs:kx
 others:kx
 start:Int
 stripes:Int
 wide:Int
abbrev DW.cells (a:DW):List Value:=[i64 a.me,i64 a.spins,i64 a.stamp,.slice a.seen.a a.seen.n a.seen.c,.slice a.cs.a a.cs.n a.cs.c,.slice a.others.a a.others.n a.others.c,u64 a.start,i64 a.stripes,i64 a.wide]
abbrev Vm:List NK:=[.p (.i .i64),.p (.i .i64),.p (.i .i64),.s Td,.s IM,.s U7,.p (.i .u64),.p (.i .i64),.p (.i .i64)]
abbrev Pq:jY DW:=⟨9,DW.cells,fun | [.int .i64 x0,.int .i64 x1,.int .i64 x2,.slice x3a x3n x3c,.slice x4a x4n x4c,.slice x5a x5n x5c,.int .u64 x6,.int .i64 x7,.int .i64 x8]=>some ⟨x0,x1,x2,⟨x3a,x3n,x3c⟩,⟨x4a,x4n,x4c⟩,⟨x5a,x5n,x5c⟩,x6,x7,x8⟩ | _=>none,by decide,fun _=>rfl,by simp [one],fun cs a h=>by split at h <;> cases h;rfl⟩
instance {a:DW}:fk Pq a [i64 a.me,i64 a.spins,i64 a.stamp,.slice a.seen.a a.seen.n a.seen.c,.slice a.cs.a a.cs.n a.cs.c,.slice a.others.a a.others.n a.others.c,u64 a.start,i64 a.stripes,i64 a.wide]:=⟨rfl⟩
instance {x0:Int}{x1:Int}{x2:Int}{x3a:Option Addr}{x3n x3c:Nat}{x4a:Option Addr}{x4n x4c:Nat}{x5a:Option Addr}{x5n x5c:Nat}{x6:Int}{x7:Int}{x8:Int}:fQ Pq [i64 x0,i64 x1,i64 x2,.slice x3a x3n x3c,.slice x4a x4n x4c,.slice x5a x5n x5c,u64 x6,i64 x7,i64 x8] ⟨x0,x1,x2,⟨x3a,x3n,x3c⟩,⟨x4a,x4n,x4c⟩,⟨x5a,x5n,x5c⟩,x6,x7,x8⟩:=⟨rfl⟩
def DW.Q (w:bo)(a:DW):Prop:=(∃ys,IZ w a.seen.v fX ys)∧(∃ys,IZ w a.cs.v bk ys)∧(∃ys,IZ w a.others.v TS ys)
structure EO where
 mine:Bool
 again:Bool
 deriving DecidableEq
abbrev EO.cells (a:EO):List Value:=[.bool a.mine,.bool a.again]
abbrev U9:List CK:=[.b,.b]
abbrev QX:jY EO:=⟨2,EO.cells,fun | [.bool x0,.bool x1]=>some ⟨x0,x1⟩ | _=>none,by decide,fun _=>rfl,by simp [one],fun cs a h=>by split at h <;> cases h;rfl⟩
instance {a:EO}:fk QX a [.bool a.mine,.bool a.again]:=⟨rfl⟩
instance {x0:Bool}{x1:Bool}:fQ QX [.bool x0,.bool x1] ⟨x0,x1⟩:=⟨rfl⟩
theorem EO.eqb (a b:EO):((a.mine == b.mine) && (a.again == b.again))=decide (a=b):=by
 obtain⟨x0,x1⟩:=a
 obtain⟨y0,y1⟩:=b
 rw [Bool.eq_iff_iff]
 simp [and_assoc]
structure Ea where
 what:Int
 root:Int
 k:Int
 x:Int
 deriving DecidableEq
abbrev Ea.cells (a:Ea):List Value:=[i64 a.what,i64 a.root,u64 a.k,u64 a.x]
abbrev U6:List CK:=[.i .i64,.i .i64,.i .u64,.i .u64]
abbrev PZ:jY Ea:=⟨4,Ea.cells,fun | [.int .i64 x0,.int .i64 x1,.int .u64 x2,.int .u64 x3]=>some ⟨x0,x1,x2,x3⟩ | _=>none,by decide,fun _=>rfl,by simp [one],fun cs a h=>by split at h <;> cases h;rfl⟩
instance {a:Ea}:fk PZ a [i64 a.what,i64 a.root,u64 a.k,u64 a.x]:=⟨rfl⟩
instance {x0:Int}{x1:Int}{x2:Int}{x3:Int}:fQ PZ [i64 x0,i64 x1,u64 x2,u64 x3] ⟨x0,x1,x2,x3⟩:=⟨rfl⟩
theorem Ea.eqb (a b:Ea):(decide (a.what=b.what) && (decide (a.root=b.root) && (decide (a.k=b.k) && decide (a.x=b.x))))=decide (a=b):=by
 obtain⟨x0,x1,x2,x3⟩:=a
 obtain⟨y0,y1,y2,y3⟩:=b
 rw [Bool.eq_iff_iff]
 simp [and_assoc]
theorem dx {k:Nat}(h:k<4611686018427387904):IntKind.wrap .i64 ((k:Int)+1)=((k+1:Nat):Int):=by
 rw [Go.IntWalk.i64_in _ (by omega)];rfl
theorem gh {n:Int}(h:-9223372036854775808≤n)(h':n≤9223372036854775807):IntKind.wrap .i64 n=n:=Go.IntWalk.i64_in _ ⟨h,h'⟩
theorem CI {n:Int}(h:0≤n)(h':n≤18446744073709551615):IntKind.wrap .u64 n=n:=Go.IntWalk.u64_in _ ⟨h,h'⟩
def UV (k:IntKind)(n:Int):Prop:=(Lit.int k n).wf=true
theorem Pt {n:Int}(h:UV .u8 n):0≤n∧n≤255:=by simp [UV,Lit.wf,IntKind.min,IntKind.max,IntKind.signed,IntKind.bits] at h;omega
theorem RQ {n:Int}(h:UV .u64 n):0≤n∧n≤18446744073709551615:=by simp [UV,Lit.wf,IntKind.min,IntKind.max,IntKind.signed,IntKind.bits] at h;omega
def held (n lo hi:Int):Int:=if n<lo then lo else if n > hi then hi else n
theorem eI {n lo hi:Int}(h:lo≤hi):lo≤held n lo hi∧held n lo hi≤hi:=by unfold held;split <;> (try split) <;> omega
def iM (b:Nat)(xs:List Int):bd:=od fun v=>bt (gX (bf v [v])) (bt (own b [v]) (sl dd v xs))
theorem ga {w0:bo}{M:List bd}{F:World→Prop}{b:Nat}{xs:List Int}:G w0 (ob iM b xs::M) F=∀v,bf v [v]→G w0 (own b [v]::sl dd v xs::M) F:=by
 rw [em,iM]
 simp only [qm,ez,fI]
def jZ {α:Type}(E:jY α)(b:Nat)(xs:List α):bd:=od fun v=>bt (gX (bf v [v])) (bt (own b [v]) (sl E v xs))
theorem ft {α:Type}{E:jY α}{w0:bo}{M:List bd}{F:World→Prop}{b:Nat}{xs:List α}:G w0 (ob (jZ E) b xs::M) F=∀v,bf v [v]→G w0 (own b [v]::sl E v xs::M) F:=by
 rw [em,jZ]
 simp only [qm,ez,fI]
class dM (As L:List bd)(M:outParam (List bd)):Prop where
 eq:di L=di (As++M)
instance dM.nil {L:List bd}:dM [] L L:=⟨rfl⟩
instance dM.cons {A:bd}{As L M1 M:List bd}[p:LX L A M1][q:dM As M1 M]:dM (A::As) L M:=⟨by
 rw [p.eq]
 show bt A (di M1)=bt A (di (As++M))
 rw [q.eq]⟩
theorem G.pickAll {As L M:List bd}{w0:bo}{F:World→Prop}[p:dM As L M](h:G w0 (As++M) F):G w0 L F:=by
 rw [dq p.eq];exact h
theorem cw {α:Type}{xs:List α}{k:Nat}(h:k<xs.length):fe xs k xs[k]:=⟨List.getElem?_eq_getElem h⟩
theorem fe.lt {α:Type}{xs:List α}{k:Nat}{x:α}(h:fe xs k x):k<xs.length:=by
 rcases Nat.lt_or_ge k xs.length with h1 | h1
 ·exact h1
 ·have:=h.eq;simp [List.getElem?_eq_none h1] at this
end Go.Proofs.YtoealglbimbbmaaGreatDoor.S
