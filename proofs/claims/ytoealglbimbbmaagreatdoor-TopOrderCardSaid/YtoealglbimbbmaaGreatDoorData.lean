import Derived.Test.YtoealglbimbbmaaGreatDoorSl
import Derived.Test.YtoealglbimbbmaaGreatDoorNest
namespace Go.Proofs.YtoealglbimbbmaaGreatDoor.S
open Go Go.Proofs
set_option linter.unusedVariables false
set_option linter.unusedSimpArgs false
abbrev cx:jY Int:=⟨1,fun n=>[u64 n],fun | [.int .u64 n]=>some n | _=>none,by decide,fun _=>rfl,by simp [one],fun cs a h=>by split at h <;> simp_all⟩
instance {n:Int}:fx cx n [u64 n]:=⟨rfl⟩
instance {n:Int}:gz cx [u64 n] n:=⟨rfl⟩
abbrev bg:jY Int:=⟨1,fun n=>[i64 n],fun | [.int .i64 n]=>some n | _=>none,by decide,fun _=>rfl,by simp [one],fun cs a h=>by split at h <;> simp_all⟩
instance {n:Int}:fx bg n [i64 n]:=⟨rfl⟩
instance {n:Int}:gz bg [i64 n] n:=⟨rfl⟩
abbrev Sj:jY Int:=⟨1,fun n=>[.int .u8 n],fun | [.int .u8 n]=>some n | _=>none,by decide,fun _=>rfl,by simp [one],fun cs a h=>by split at h <;> simp_all⟩
instance {n:Int}:fx Sj n [.int .u8 n]:=⟨rfl⟩
instance {n:Int}:gz Sj [.int .u8 n] n:=⟨rfl⟩
abbrev R5:jY Bool:=⟨1,fun n=>[.bool n],fun | [.bool n]=>some n | _=>none,by decide,fun _=>rfl,by simp [one],fun cs a h=>by split at h <;> simp_all⟩
instance {n:Bool}:fx R5 n [.bool n]:=⟨rfl⟩
instance {n:Bool}:gz R5 [.bool n] n:=⟨rfl⟩
abbrev gV:jY Nat:=⟨1,fun b=>[ptr b 0],fun | [.pointer (some ⟨b,0,none⟩)]=>some b | _=>none,by decide,fun _=>rfl,by simp [one],fun cs a h=>by split at h <;> simp_all⟩
instance {b:Nat}:fx gV b [ptr b 0]:=⟨rfl⟩
instance {b:Nat}:gz gV [ptr b 0] b:=⟨rfl⟩
structure lA where
 a:Option Addr
 n:Nat
 c:Nat
abbrev lA.v (s:lA):Value:=.slice s.a s.n s.c
theorem pX {α:Type}(E:jY α){Gd:List Value→Prop}(Q:α→Prop)(hE:∀cs,Gd cs→∃a,E.enc a=cs∧Q a){w:World}{v:Value}{n:Nat}(h:J4 E.sz Gd w v n):∃xs:List α,A3 (bh.of w) v E xs∧(∀x∈xs,Q x)∧xs.length=n:=by
 obtain⟨oa,cap,rfl,h2,h3⟩:=h
 have:∀m,m≤n→∃xs:List α,xs.length=m∧(∀x∈xs,Q x)∧∀i x,xs[i]? = some x→∃e o cs,oa=some ⟨e,o,none⟩∧mem w e=some cs∧o+(i+1)*E.sz≤cs.length∧(cs.drop (o+i*E.sz)).take E.sz=E.enc x:=by
  intro m
  induction m with
  | zero=>exact fun _=>⟨[],rfl,by simp,by simp⟩
  | succ m ih =>
   intro hm
   obtain⟨xs,hl,hq,hx⟩:=ih (by omega)
   obtain⟨e,o,cs,g1,g3,g4,g5⟩:=h3 m (by omega)
   obtain⟨a,ha,hqa⟩:=hE _ g5
   refine⟨xs++[a],by simp [hl],fun x hx=>?_,fun i x hi=>?_⟩
   ·rcases List.mem_append.1 hx with h | h
    ·exact hq x h
    ·rw [List.mem_singleton.1 h];exact hqa
   rcases Nat.lt_or_ge i xs.length with hlt | hge
   ·rw [List.getElem?_append_left hlt] at hi
    exact hx i x hi
   ·rw [List.getElem?_append_right hge] at hi
    have:i=m:=by
     rcases Nat.lt_or_ge (i-xs.length) 1 with h1 | h1
     ·omega
     ·rw [List.getElem?_eq_none (by simpa using h1)] at hi;cases hi
    subst this
    rw [hl,Nat.sub_self] at hi
    cases hi
    exact⟨e,o,cs,g1,g3,g4,ha.symm⟩
 obtain⟨xs,hl,hq,hx⟩:=this n (Nat.le_refl n)
 refine⟨xs,⟨oa,cap,by rw [hl],fun h=>⟨?_,(h2 h).2⟩,hx⟩,hq,hl⟩
 exact List.eq_nil_of_length_eq_zero (by rw [hl];exact(h2 h).1)
structure cw where
 version:Int
 held:Bool
 owner:Int
 deriving DecidableEq
abbrev cw.cells (a:cw):List Value:=[u64 a.version,.bool a.held,i64 a.owner]
abbrev UE:List CK:=[.i .u64,.b,.i .i64]
abbrev lN:jY cw:=⟨3,cw.cells,fun | [.int .u64 x0,.bool x1,.int .i64 x2]=>some ⟨x0,x1,x2⟩ | _=>none,by decide,fun _=>rfl,by simp [one],fun cs a h=>by split at h <;> cases h;rfl⟩
instance {a:cw}:fx lN a [u64 a.version,.bool a.held,i64 a.owner]:=⟨rfl⟩
instance {x0:Int}{x1:Bool}{x2:Int}:gz lN [u64 x0,.bool x1,i64 x2] ⟨x0,x1,x2⟩:=⟨rfl⟩
theorem cw.eqb (a b:cw):(decide (a.version=b.version) && ((a.held == b.held) && decide (a.owner=b.owner)))=decide (a=b):=by
 obtain⟨x0,x1,x2⟩:=a
 obtain⟨y0,y1,y2⟩:=b
 rw [Bool.eq_iff_iff]
 simp [and_assoc]
structure fS where
 stripe:Int
 version:Int
 deriving DecidableEq
abbrev fS.cells (a:fS):List Value:=[i64 a.stripe,u64 a.version]
abbrev SP:List CK:=[.i .i64,.i .u64]
abbrev gm:jY fS:=⟨2,fS.cells,fun | [.int .i64 x0,.int .u64 x1]=>some ⟨x0,x1⟩ | _=>none,by decide,fun _=>rfl,by simp [one],fun cs a h=>by split at h <;> cases h;rfl⟩
instance {a:fS}:fx gm a [i64 a.stripe,u64 a.version]:=⟨rfl⟩
instance {x0:Int}{x1:Int}:gz gm [i64 x0,u64 x1] ⟨x0,x1⟩:=⟨rfl⟩
theorem fS.eqb (a b:fS):(decide (a.stripe=b.stripe) && decide (a.version=b.version))=decide (a=b):=by
 obtain⟨x0,x1⟩:=a
 obtain⟨y0,y1⟩:=b
 rw [Bool.eq_iff_iff]
 simp [and_assoc]
structure au where
 place:Int
 word:Int
 deriving DecidableEq
abbrev au.cells (a:au):List Value:=[i64 a.place,u64 a.word]
abbrev Jk:List CK:=[.i .i64,.i .u64]
abbrev bf:jY au:=⟨2,au.cells,fun | [.int .i64 x0,.int .u64 x1]=>some ⟨x0,x1⟩ | _=>none,by decide,fun _=>rfl,by simp [one],fun cs a h=>by split at h <;> cases h;rfl⟩
instance {a:au}:fx bf a [i64 a.place,u64 a.word]:=⟨rfl⟩
instance {x0:Int}{x1:Int}:gz bf [i64 x0,u64 x1] ⟨x0,x1⟩:=⟨rfl⟩
theorem au.eqb (a b:au):(decide (a.place=b.place) && decide (a.word=b.word))=decide (a=b):=by
 obtain⟨x0,x1⟩:=a
 obtain⟨y0,y1⟩:=b
 rw [Bool.eq_iff_iff]
 simp [and_assoc]
structure oX where
 place:Int
 stamp:Int
 deriving DecidableEq
abbrev oX.cells (a:oX):List Value:=[i64 a.place,u64 a.stamp]
abbrev UK:List CK:=[.i .i64,.i .u64]
abbrev ck:jY oX:=⟨2,oX.cells,fun | [.int .i64 x0,.int .u64 x1]=>some ⟨x0,x1⟩ | _=>none,by decide,fun _=>rfl,by simp [one],fun cs a h=>by split at h <;> cases h;rfl⟩
instance {a:oX}:fx ck a [i64 a.place,u64 a.stamp]:=⟨rfl⟩
instance {x0:Int}{x1:Int}:gz ck [i64 x0,u64 x1] ⟨x0,x1⟩:=⟨rfl⟩
theorem oX.eqb (a b:oX):(decide (a.place=b.place) && decide (a.stamp=b.stamp))=decide (a=b):=by
 obtain⟨x0,x1⟩:=a
 obtain⟨y0,y1⟩:=b
 rw [Bool.eq_iff_iff]
 simp [and_assoc]
structure FR where
 key:Int
 val:Int
 deriving DecidableEq
abbrev FR.cells (a:FR):List Value:=[u64 a.key,u64 a.val]
abbrev Uw:List CK:=[.i .u64,.i .u64]
abbrev Qe:jY FR:=⟨2,FR.cells,fun | [.int .u64 x0,.int .u64 x1]=>some ⟨x0,x1⟩ | _=>none,by decide,fun _=>rfl,by simp [one],fun cs a h=>by split at h <;> cases h;rfl⟩
instance {a:FR}:fx Qe a [u64 a.key,u64 a.val]:=⟨rfl⟩
instance {x0:Int}{x1:Int}:gz Qe [u64 x0,u64 x1] ⟨x0,x1⟩:=⟨rfl⟩
theorem FR.eqb (a b:FR):(decide (a.key=b.key) && decide (a.val=b.val))=decide (a=b):=by
 obtain⟨x0,x1⟩:=a
 obtain⟨y0,y1⟩:=b
 rw [Bool.eq_iff_iff]
 simp [and_assoc]
structure zC where
 place:Int
 class_:Int
 live:Bool
 deriving DecidableEq
abbrev zC.cells (a:zC):List Value:=[i64 a.place,i64 a.class_,.bool a.live]
abbrev Uu:List CK:=[.i .i64,.i .i64,.b]
abbrev Ng:jY zC:=⟨3,zC.cells,fun | [.int .i64 x0,.int .i64 x1,.bool x2]=>some ⟨x0,x1,x2⟩ | _=>none,by decide,fun _=>rfl,by simp [one],fun cs a h=>by split at h <;> cases h;rfl⟩
instance {a:zC}:fx Ng a [i64 a.place,i64 a.class_,.bool a.live]:=⟨rfl⟩
instance {x0:Int}{x1:Int}{x2:Bool}:gz Ng [i64 x0,i64 x1,.bool x2] ⟨x0,x1,x2⟩:=⟨rfl⟩
theorem zC.eqb (a b:zC):(decide (a.place=b.place) && (decide (a.class_=b.class_) && (a.live == b.live)))=decide (a=b):=by
 obtain⟨x0,x1,x2⟩:=a
 obtain⟨y0,y1,y2⟩:=b
 rw [Bool.eq_iff_iff]
 simp [and_assoc]
structure rq where
 kind:Int
 place:Int
 old:Int
 word:Int
 was:cw
 lock:cw
 deriving DecidableEq
abbrev rq.cells (a:rq):List Value:=[i64 a.kind,i64 a.place,u64 a.old,u64 a.word,u64 a.was.version,.bool a.was.held,i64 a.was.owner,u64 a.lock.version,.bool a.lock.held,i64 a.lock.owner]
abbrev UC:List CK:=[.i .i64,.i .i64,.i .u64,.i .u64,.i .u64,.b,.i .i64,.i .u64,.b,.i .i64]
abbrev Tk:jY rq:=⟨10,rq.cells,fun | [.int .i64 x0,.int .i64 x1,.int .u64 x2,.int .u64 x3,.int .u64 x4,.bool x5,.int .i64 x6,.int .u64 x7,.bool x8,.int .i64 x9]=>some ⟨x0,x1,x2,x3,⟨x4,x5,x6⟩,⟨x7,x8,x9⟩⟩ | _=>none,by decide,fun _=>rfl,by simp [one],fun cs a h=>by split at h <;> cases h;rfl⟩
instance {a:rq}:fx Tk a [i64 a.kind,i64 a.place,u64 a.old,u64 a.word,u64 a.was.version,.bool a.was.held,i64 a.was.owner,u64 a.lock.version,.bool a.lock.held,i64 a.lock.owner]:=⟨rfl⟩
instance {x0:Int}{x1:Int}{x2:Int}{x3:Int}{x4:Int}{x5:Bool}{x6:Int}{x7:Int}{x8:Bool}{x9:Int}:gz Tk [i64 x0,i64 x1,u64 x2,u64 x3,u64 x4,.bool x5,i64 x6,u64 x7,.bool x8,i64 x9] ⟨x0,x1,x2,x3,⟨x4,x5,x6⟩,⟨x7,x8,x9⟩⟩:=⟨rfl⟩
theorem rq.eqb (a b:rq):(decide (a.kind=b.kind) && (decide (a.place=b.place) && (decide (a.old=b.old) && (decide (a.word=b.word) && (decide (a.was.version=b.was.version) && ((a.was.held == b.was.held) && (decide (a.was.owner=b.was.owner) && (decide (a.lock.version=b.lock.version) && ((a.lock.held == b.lock.held) && decide (a.lock.owner=b.lock.owner))))))))))=decide (a=b):=by
 obtain⟨x0,x1,x2,x3,⟨x4,x5,x6⟩,⟨x7,x8,x9⟩⟩:=a
 obtain⟨y0,y1,y2,y3,⟨y4,y5,y6⟩,⟨y7,y8,y9⟩⟩:=b
 rw [Bool.eq_iff_iff]
 simp [and_assoc]
structure fG where
 word:Int
 lock:cw
 done:Bool
 err:Int
 deriving DecidableEq
abbrev fG.cells (a:fG):List Value:=[u64 a.word,u64 a.lock.version,.bool a.lock.held,i64 a.lock.owner,.bool a.done,i64 a.err]
abbrev UP:List CK:=[.i .u64,.i .u64,.b,.i .i64,.b,.i .i64]
abbrev Sp:jY fG:=⟨6,fG.cells,fun | [.int .u64 x0,.int .u64 x1,.bool x2,.int .i64 x3,.bool x4,.int .i64 x5]=>some ⟨x0,⟨x1,x2,x3⟩,x4,x5⟩ | _=>none,by decide,fun _=>rfl,by simp [one],fun cs a h=>by split at h <;> cases h;rfl⟩
instance {a:fG}:fx Sp a [u64 a.word,u64 a.lock.version,.bool a.lock.held,i64 a.lock.owner,.bool a.done,i64 a.err]:=⟨rfl⟩
instance {x0:Int}{x1:Int}{x2:Bool}{x3:Int}{x4:Bool}{x5:Int}:gz Sp [u64 x0,u64 x1,.bool x2,i64 x3,.bool x4,i64 x5] ⟨x0,⟨x1,x2,x3⟩,x4,x5⟩:=⟨rfl⟩
theorem fG.eqb (a b:fG):(decide (a.word=b.word) && (decide (a.lock.version=b.lock.version) && ((a.lock.held == b.lock.held) && (decide (a.lock.owner=b.lock.owner) && ((a.done == b.done) && decide (a.err=b.err))))))=decide (a=b):=by
 obtain⟨x0,⟨x1,x2,x3⟩,x4,x5⟩:=a
 obtain⟨y0,⟨y1,y2,y3⟩,y4,y5⟩:=b
 rw [Bool.eq_iff_iff]
 simp [and_assoc]
structure jH where
 words:Int
 stripes:Int
 wide:Int
 threads:Int
 start:Int
 deriving DecidableEq
abbrev jH.cells (a:jH):List Value:=[i64 a.words,i64 a.stripes,i64 a.wide,i64 a.threads,u64 a.start]
abbrev Up:List CK:=[.i .i64,.i .i64,.i .i64,.i .i64,.i .u64]
abbrev Mm:jY jH:=⟨5,jH.cells,fun | [.int .i64 x0,.int .i64 x1,.int .i64 x2,.int .i64 x3,.int .u64 x4]=>some ⟨x0,x1,x2,x3,x4⟩ | _=>none,by decide,fun _=>rfl,by simp [one],fun cs a h=>by split at h <;> cases h;rfl⟩
instance {a:jH}:fx Mm a [i64 a.words,i64 a.stripes,i64 a.wide,i64 a.threads,u64 a.start]:=⟨rfl⟩
instance {x0:Int}{x1:Int}{x2:Int}{x3:Int}{x4:Int}:gz Mm [i64 x0,i64 x1,i64 x2,i64 x3,u64 x4] ⟨x0,x1,x2,x3,x4⟩:=⟨rfl⟩
theorem jH.eqb (a b:jH):(decide (a.words=b.words) && (decide (a.stripes=b.stripes) && (decide (a.wide=b.wide) && (decide (a.threads=b.threads) && decide (a.start=b.start)))))=decide (a=b):=by
 obtain⟨x0,x1,x2,x3,x4⟩:=a
 obtain⟨y0,y1,y2,y3,y4⟩:=b
 rw [Bool.eq_iff_iff]
 simp [and_assoc]
structure F2 where
 sort:Int
 n:Int
 deriving DecidableEq
abbrev F2.cells (a:F2):List Value:=[i64 a.sort,u64 a.n]
abbrev UG:List CK:=[.i .i64,.i .u64]
abbrev Qc:jY F2:=⟨2,F2.cells,fun | [.int .i64 x0,.int .u64 x1]=>some ⟨x0,x1⟩ | _=>none,by decide,fun _=>rfl,by simp [one],fun cs a h=>by split at h <;> cases h;rfl⟩
instance {a:F2}:fx Qc a [i64 a.sort,u64 a.n]:=⟨rfl⟩
instance {x0:Int}{x1:Int}:gz Qc [i64 x0,u64 x1] ⟨x0,x1⟩:=⟨rfl⟩
theorem F2.eqb (a b:F2):(decide (a.sort=b.sort) && decide (a.n=b.n))=decide (a=b):=by
 obtain⟨x0,x1⟩:=a
 obtain⟨y0,y1⟩:=b
 rw [Bool.eq_iff_iff]
 simp [and_assoc]
structure tT where
 store:Bool
 place:Int
 v:Int
 deriving DecidableEq
abbrev tT.cells (a:tT):List Value:=[.bool a.store,i64 a.place,u64 a.v]
abbrev TT:List CK:=[.b,.i .i64,.i .u64]
abbrev Kn:jY tT:=⟨3,tT.cells,fun | [.bool x0,.int .i64 x1,.int .u64 x2]=>some ⟨x0,x1,x2⟩ | _=>none,by decide,fun _=>rfl,by simp [one],fun cs a h=>by split at h <;> cases h;rfl⟩
instance {a:tT}:fx Kn a [.bool a.store,i64 a.place,u64 a.v]:=⟨rfl⟩
instance {x0:Bool}{x1:Int}{x2:Int}:gz Kn [.bool x0,i64 x1,u64 x2] ⟨x0,x1,x2⟩:=⟨rfl⟩
theorem tT.eqb (a b:tT):((a.store == b.store) && (decide (a.place=b.place) && decide (a.v=b.v)))=decide (a=b):=by
 obtain⟨x0,x1,x2⟩:=a
 obtain⟨y0,y1,y2⟩:=b
 rw [Bool.eq_iff_iff]
 simp [and_assoc]
structure nB where
 kind:Int
 i:Int
 was:cw
 l:cw
 deriving DecidableEq
abbrev nB.cells (a:nB):List Value:=[i64 a.kind,i64 a.i,u64 a.was.version,.bool a.was.held,i64 a.was.owner,u64 a.l.version,.bool a.l.held,i64 a.l.owner]
abbrev S0:List CK:=[.i .i64,.i .i64,.i .u64,.b,.i .i64,.i .u64,.b,.i .i64]
abbrev FS:jY nB:=⟨8,nB.cells,fun | [.int .i64 x0,.int .i64 x1,.int .u64 x2,.bool x3,.int .i64 x4,.int .u64 x5,.bool x6,.int .i64 x7]=>some ⟨x0,x1,⟨x2,x3,x4⟩,⟨x5,x6,x7⟩⟩ | _=>none,by decide,fun _=>rfl,by simp [one],fun cs a h=>by split at h <;> cases h;rfl⟩
instance {a:nB}:fx FS a [i64 a.kind,i64 a.i,u64 a.was.version,.bool a.was.held,i64 a.was.owner,u64 a.l.version,.bool a.l.held,i64 a.l.owner]:=⟨rfl⟩
instance {x0:Int}{x1:Int}{x2:Int}{x3:Bool}{x4:Int}{x5:Int}{x6:Bool}{x7:Int}:gz FS [i64 x0,i64 x1,u64 x2,.bool x3,i64 x4,u64 x5,.bool x6,i64 x7] ⟨x0,x1,⟨x2,x3,x4⟩,⟨x5,x6,x7⟩⟩:=⟨rfl⟩
theorem nB.eqb (a b:nB):(decide (a.kind=b.kind) && (decide (a.i=b.i) && (decide (a.was.version=b.was.version) && ((a.was.held == b.was.held) && (decide (a.was.owner=b.was.owner) && (decide (a.l.version=b.l.version) && ((a.l.held == b.l.held) && decide (a.l.owner=b.l.owner))))))))=decide (a=b):=by
 obtain⟨x0,x1,⟨x2,x3,x4⟩,⟨x5,x6,x7⟩⟩:=a
 obtain⟨y0,y1,⟨y2,y3,y4⟩,⟨y5,y6,y7⟩⟩:=b
 rw [Bool.eq_iff_iff]
 simp [and_assoc]
structure qw where
 ripe:Bool
 stamp:Int
 blocks:lA
 slots:lA
abbrev qw.cells (a:qw):List Value:=[.bool a.ripe,u64 a.stamp,.slice a.blocks.a a.blocks.n a.blocks.c,.slice a.slots.a a.slots.n a.slots.c]
abbrev TD:List NK:=[.p .b,.p (.i .u64),.s [.i .i64],.s [.i .u64]]
abbrev Hb:jY qw:=⟨4,qw.cells,fun | [.bool x0,.int .u64 x1,.slice x2a x2n x2c,.slice x3a x3n x3c]=>some ⟨x0,x1,⟨x2a,x2n,x2c⟩,⟨x3a,x3n,x3c⟩⟩ | _=>none,by decide,fun _=>rfl,by simp [one],fun cs a h=>by split at h <;> cases h;rfl⟩
instance {a:qw}:fx Hb a [.bool a.ripe,u64 a.stamp,.slice a.blocks.a a.blocks.n a.blocks.c,.slice a.slots.a a.slots.n a.slots.c]:=⟨rfl⟩
instance {x0:Bool}{x1:Int}{x2a:Option Addr}{x2n x2c:Nat}{x3a:Option Addr}{x3n x3c:Nat}:gz Hb [.bool x0,u64 x1,.slice x2a x2n x2c,.slice x3a x3n x3c] ⟨x0,x1,⟨x2a,x2n,x2c⟩,⟨x3a,x3n,x3c⟩⟩:=⟨rfl⟩
def qw.Q (w:bh)(a:qw):Prop:=(∃ys,A3 w a.blocks.v bg ys)∧(∃ys,A3 w a.slots.v cx ys)
structure yS where
 word:Int
 known:Bool
 deriving DecidableEq
abbrev yS.cells (a:yS):List Value:=[u64 a.word,.bool a.known]
abbrev UF:List CK:=[.i .u64,.b]
abbrev qt:jY yS:=⟨2,yS.cells,fun | [.int .u64 x0,.bool x1]=>some ⟨x0,x1⟩ | _=>none,by decide,fun _=>rfl,by simp [one],fun cs a h=>by split at h <;> cases h;rfl⟩
instance {a:yS}:fx qt a [u64 a.word,.bool a.known]:=⟨rfl⟩
instance {x0:Int}{x1:Bool}:gz qt [u64 x0,.bool x1] ⟨x0,x1⟩:=⟨rfl⟩
theorem yS.eqb (a b:yS):(decide (a.word=b.word) && (a.known == b.known))=decide (a=b):=by
 obtain⟨x0,x1⟩:=a
 obtain⟨y0,y1⟩:=b
 rw [Bool.eq_iff_iff]
 simp [and_assoc]
structure zz where
 c:lA
 f:lA
abbrev zz.cells (a:zz):List Value:=[.slice a.c.a a.c.n a.c.c,.slice a.f.a a.f.n a.f.c]
abbrev Us:List NK:=[.s Jk,.s [.i .i64]]
abbrev Mo:jY zz:=⟨2,zz.cells,fun | [.slice x0a x0n x0c,.slice x1a x1n x1c]=>some ⟨⟨x0a,x0n,x0c⟩,⟨x1a,x1n,x1c⟩⟩ | _=>none,by decide,fun _=>rfl,by simp [one],fun cs a h=>by split at h <;> cases h;rfl⟩
instance {a:zz}:fx Mo a [.slice a.c.a a.c.n a.c.c,.slice a.f.a a.f.n a.f.c]:=⟨rfl⟩
instance {x0a:Option Addr}{x0n x0c:Nat}{x1a:Option Addr}{x1n x1c:Nat}:gz Mo [.slice x0a x0n x0c,.slice x1a x1n x1c] ⟨⟨x0a,x0n,x0c⟩,⟨x1a,x1n,x1c⟩⟩:=⟨rfl⟩
def zz.Q (w:bh)(a:zz):Prop:=(∃ys,A3 w a.c.v bf ys)∧(∃ys,A3 w a.f.v bg ys)
structure nG where
 kind:Int
 place:Int
 v:Int
 cs:lA
abbrev nG.cells (a:nG):List Value:=[i64 a.kind,i64 a.place,u64 a.v,.slice a.cs.a a.cs.n a.cs.c]
abbrev Tr:List NK:=[.p (.i .i64),.p (.i .i64),.p (.i .u64),.s Jk]
abbrev EY:jY nG:=⟨4,nG.cells,fun | [.int .i64 x0,.int .i64 x1,.int .u64 x2,.slice x3a x3n x3c]=>some ⟨x0,x1,x2,⟨x3a,x3n,x3c⟩⟩ | _=>none,by decide,fun _=>rfl,by simp [one],fun cs a h=>by split at h <;> cases h;rfl⟩
instance {a:nG}:fx EY a [i64 a.kind,i64 a.place,u64 a.v,.slice a.cs.a a.cs.n a.cs.c]:=⟨rfl⟩
instance {x0:Int}{x1:Int}{x2:Int}{x3a:Option Addr}{x3n x3c:Nat}:gz EY [i64 x0,i64 x1,u64 x2,.slice x3a x3n x3c] ⟨x0,x1,x2,⟨x3a,x3n,x3c⟩⟩:=⟨rfl⟩
def nG.Q (w:bh)(a:nG):Prop:=(∃ys,A3 w a.cs.v bf ys)
structure nj where
 take:Bool
 c:au
 l:lA
abbrev nj.cells (a:nj):List Value:=[.bool a.take,i64 a.c.place,u64 a.c.word,.slice a.l.a a.l.n a.l.c]
abbrev To:List NK:=[.p .b,.p (.i .i64),.p (.i .u64),.s Jk]
abbrev Fz:jY nj:=⟨4,nj.cells,fun | [.bool x0,.int .i64 x1,.int .u64 x2,.slice x3a x3n x3c]=>some ⟨x0,⟨x1,x2⟩,⟨x3a,x3n,x3c⟩⟩ | _=>none,by decide,fun _=>rfl,by simp [one],fun cs a h=>by split at h <;> cases h;rfl⟩
instance {a:nj}:fx Fz a [.bool a.take,i64 a.c.place,u64 a.c.word,.slice a.l.a a.l.n a.l.c]:=⟨rfl⟩
instance {x0:Bool}{x1:Int}{x2:Int}{x3a:Option Addr}{x3n x3c:Nat}:gz Fz [.bool x0,i64 x1,u64 x2,.slice x3a x3n x3c] ⟨x0,⟨x1,x2⟩,⟨x3a,x3n,x3c⟩⟩:=⟨rfl⟩
def nj.Q (w:bh)(a:nj):Prop:=(∃ys,A3 w a.l.v bf ys)
structure Er where
 me:Int
 spins:Int
 stamp:Int
 seen:lA
 cs:lA
 others:lA
 start:Int
 stripes:Int
 wide:Int
abbrev Er.cells (a:Er):List Value:=[i64 a.me,i64 a.spins,i64 a.stamp,.slice a.seen.a a.seen.n a.seen.c,.slice a.cs.a a.cs.n a.cs.c,.slice a.others.a a.others.n a.others.c,u64 a.start,i64 a.stripes,i64 a.wide]
abbrev UJ:List NK:=[.p (.i .i64),.p (.i .i64),.p (.i .i64),.s SP,.s Jk,.s UC,.p (.i .u64),.p (.i .i64),.p (.i .i64)]
abbrev Ph:jY Er:=⟨9,Er.cells,fun | [.int .i64 x0,.int .i64 x1,.int .i64 x2,.slice x3a x3n x3c,.slice x4a x4n x4c,.slice x5a x5n x5c,.int .u64 x6,.int .i64 x7,.int .i64 x8]=>some ⟨x0,x1,x2,⟨x3a,x3n,x3c⟩,⟨x4a,x4n,x4c⟩,⟨x5a,x5n,x5c⟩,x6,x7,x8⟩ | _=>none,by decide,fun _=>rfl,by simp [one],fun cs a h=>by split at h <;> cases h;rfl⟩
instance {a:Er}:fx Ph a [i64 a.me,i64 a.spins,i64 a.stamp,.slice a.seen.a a.seen.n a.seen.c,.slice a.cs.a a.cs.n a.cs.c,.slice a.others.a a.others.n a.others.c,u64 a.start,i64 a.stripes,i64 a.wide]:=⟨rfl⟩
instance {x0:Int}{x1:Int}{x2:Int}{x3a:Option Addr}{x3n x3c:Nat}{x4a:Option Addr}{x4n x4c:Nat}{x5a:Option Addr}{x5n x5c:Nat}{x6:Int}{x7:Int}{x8:Int}:gz Ph [i64 x0,i64 x1,i64 x2,.slice x3a x3n x3c,.slice x4a x4n x4c,.slice x5a x5n x5c,u64 x6,i64 x7,i64 x8] ⟨x0,x1,x2,⟨x3a,x3n,x3c⟩,⟨x4a,x4n,x4c⟩,⟨x5a,x5n,x5c⟩,x6,x7,x8⟩:=⟨rfl⟩
def Er.Q (w:bh)(a:Er):Prop:=(∃ys,A3 w a.seen.v gm ys)∧(∃ys,A3 w a.cs.v bf ys)∧(∃ys,A3 w a.others.v Tk ys)
structure EK where
 mine:Bool
 again:Bool
 deriving DecidableEq
abbrev EK.cells (a:EK):List Value:=[.bool a.mine,.bool a.again]
abbrev UA:List CK:=[.b,.b]
abbrev Qj:jY EK:=⟨2,EK.cells,fun | [.bool x0,.bool x1]=>some ⟨x0,x1⟩ | _=>none,by decide,fun _=>rfl,by simp [one],fun cs a h=>by split at h <;> cases h;rfl⟩
instance {a:EK}:fx Qj a [.bool a.mine,.bool a.again]:=⟨rfl⟩
instance {x0:Bool}{x1:Bool}:gz Qj [.bool x0,.bool x1] ⟨x0,x1⟩:=⟨rfl⟩
theorem EK.eqb (a b:EK):((a.mine == b.mine) && (a.again == b.again))=decide (a=b):=by
 obtain⟨x0,x1⟩:=a
 obtain⟨y0,y1⟩:=b
 rw [Bool.eq_iff_iff]
 simp [and_assoc]
structure EL where
 what:Int
 root:Int
 k:Int
 x:Int
 deriving DecidableEq
abbrev EL.cells (a:EL):List Value:=[i64 a.what,i64 a.root,u64 a.k,u64 a.x]
abbrev UL:List CK:=[.i .i64,.i .i64,.i .u64,.i .u64]
abbrev Qn:jY EL:=⟨4,EL.cells,fun | [.int .i64 x0,.int .i64 x1,.int .u64 x2,.int .u64 x3]=>some ⟨x0,x1,x2,x3⟩ | _=>none,by decide,fun _=>rfl,by simp [one],fun cs a h=>by split at h <;> cases h;rfl⟩
instance {a:EL}:fx Qn a [i64 a.what,i64 a.root,u64 a.k,u64 a.x]:=⟨rfl⟩
instance {x0:Int}{x1:Int}{x2:Int}{x3:Int}:gz Qn [i64 x0,i64 x1,u64 x2,u64 x3] ⟨x0,x1,x2,x3⟩:=⟨rfl⟩
theorem EL.eqb (a b:EL):(decide (a.what=b.what) && (decide (a.root=b.root) && (decide (a.k=b.k) && decide (a.x=b.x))))=decide (a=b):=by
 obtain⟨x0,x1,x2,x3⟩:=a
 obtain⟨y0,y1,y2,y3⟩:=b
 rw [Bool.eq_iff_iff]
 simp [and_assoc]
theorem di {k:Nat}(h:k<4611686018427387904):IntKind.wrap .i64 ((k:Int)+1)=((k+1:Nat):Int):=by
 rw [Go.IntWalk.i64_in _ (by omega)];rfl
theorem iA {n:Int}(h:-9223372036854775808≤n)(h':n≤9223372036854775807):IntKind.wrap .i64 n=n:=Go.IntWalk.i64_in _ ⟨h,h'⟩
theorem Qt {n:Int}(h:0≤n)(h':n≤18446744073709551615):IntKind.wrap .u64 n=n:=Go.IntWalk.u64_in _ ⟨h,h'⟩
def Ut (k:IntKind)(n:Int):Prop:=(Lit.int k n).wf=true
theorem Tt {n:Int}(h:Ut .u8 n):0≤n∧n≤255:=by simp [Ut,Lit.wf,IntKind.min,IntKind.max,IntKind.signed,IntKind.bits] at h;omega
theorem M5 {n:Int}(h:Ut .u64 n):0≤n∧n≤18446744073709551615:=by simp [Ut,Lit.wf,IntKind.min,IntKind.max,IntKind.signed,IntKind.bits] at h;omega
def held (n lo hi:Int):Int:=if n<lo then lo else if n > hi then hi else n
theorem ft {n lo hi:Int}(h:lo≤hi):lo≤held n lo hi∧held n lo hi≤hi:=by unfold held;split <;> (try split) <;> omega
def iS (b:Nat)(xs:List Int):ay:=m3 fun v=>bk (ic (ar v [v])) (bk (own b [v]) (sl cx v xs))
theorem gx {w0:bh}{M:List ay}{F:World→Prop}{b:Nat}{xs:List Int}:G w0 (ob iS b xs::M) F=∀v,ar v [v]→G w0 (own b [v]::sl cx v xs::M) F:=by
 rw [eZ,iS]
 simp only [qr,fb,fU]
def kq {α:Type}(E:jY α)(b:Nat)(xs:List α):ay:=m3 fun v=>bk (ic (ar v [v])) (bk (own b [v]) (sl E v xs))
theorem eJ {α:Type}{E:jY α}{w0:bh}{M:List ay}{F:World→Prop}{b:Nat}{xs:List α}:G w0 (ob (kq E) b xs::M) F=∀v,ar v [v]→G w0 (own b [v]::sl E v xs::M) F:=by
 rw [eZ,kq]
 simp only [qr,fb,fU]
class ez (As L:List ay)(M:outParam (List ay)):Prop where
 eq:da L=da (As++M)
instance ez.nil {L:List ay}:ez [] L L:=⟨rfl⟩
instance ez.cons {A:ay}{As L M1 M:List ay}[p:Ly L A M1][q:ez As M1 M]:ez (A::As) L M:=⟨by
 rw [p.eq]
 show bk A (da M1)=bk A (da (As++M))
 rw [q.eq]⟩
theorem G.pickAll {As L M:List ay}{w0:bh}{F:World→Prop}[p:ez As L M](h:G w0 (As++M) F):G w0 L F:=by
 rw [dm p.eq];exact h
theorem ct {α:Type}{xs:List α}{k:Nat}(h:k<xs.length):eU xs k xs[k]:=⟨List.getElem?_eq_getElem h⟩
theorem eU.lt {α:Type}{xs:List α}{k:Nat}{x:α}(h:eU xs k x):k<xs.length:=by
 rcases Nat.lt_or_ge k xs.length with h1 | h1
 ·exact h1
 ·have:=h.eq;simp [List.getElem?_eq_none h1] at this
end Go.Proofs.YtoealglbimbbmaaGreatDoor.S
