import Derived.Test.YtoealglbimbbmaaGreatDoorSl
import Derived.Test.YtoealglbimbbmaaGreatDoorNest
namespace Go.Proofs.YtoealglbimbbmaaGreatDoor.S
open Go Go.Proofs
set_option linter.unusedVariables false
set_option linter.unusedSimpArgs false
abbrev cx:jS Int:=⟨1,fun n=>[u64 n],fun | [.int .u64 n]=>some n | _=>none,by decide,fun _=>rfl,by simp [one],fun cs a h=>by split at h <;> simp_all⟩
instance {n:Int}:fx cx n [u64 n]:=⟨rfl⟩
instance {n:Int}:gx cx [u64 n] n:=⟨rfl⟩
abbrev bg:jS Int:=⟨1,fun n=>[i64 n],fun | [.int .i64 n]=>some n | _=>none,by decide,fun _=>rfl,by simp [one],fun cs a h=>by split at h <;> simp_all⟩
instance {n:Int}:fx bg n [i64 n]:=⟨rfl⟩
instance {n:Int}:gx bg [i64 n] n:=⟨rfl⟩
abbrev Su:jS Int:=⟨1,fun n=>[.int .u8 n],fun | [.int .u8 n]=>some n | _=>none,by decide,fun _=>rfl,by simp [one],fun cs a h=>by split at h <;> simp_all⟩
instance {n:Int}:fx Su n [.int .u8 n]:=⟨rfl⟩
instance {n:Int}:gx Su [.int .u8 n] n:=⟨rfl⟩
abbrev SE:jS Bool:=⟨1,fun n=>[.bool n],fun | [.bool n]=>some n | _=>none,by decide,fun _=>rfl,by simp [one],fun cs a h=>by split at h <;> simp_all⟩
instance {n:Bool}:fx SE n [.bool n]:=⟨rfl⟩
instance {n:Bool}:gx SE [.bool n] n:=⟨rfl⟩
abbrev gX:jS Nat:=⟨1,fun b=>[ptr b 0],fun | [.pointer (some ⟨b,0,none⟩)]=>some b | _=>none,by decide,fun _=>rfl,by simp [one],fun cs a h=>by split at h <;> simp_all⟩
instance {b:Nat}:fx gX b [ptr b 0]:=⟨rfl⟩
instance {b:Nat}:gx gX [ptr b 0] b:=⟨rfl⟩
structure lD where
 a:Option Addr
 n:Nat
 c:Nat
abbrev lD.v (s:lD):Value:=.slice s.a s.n s.c
theorem pT {α:Type}(E:jS α){Gd:List Value→Prop}(Q:α→Prop)(hE:∀cs,Gd cs→∃a,E.enc a=cs∧Q a){w:World}{v:Value}{n:Nat}(h:Kq E.sz Gd w v n):∃xs:List α,Av (bh.of w) v E xs∧(∀x∈xs,Q x)∧xs.length=n:=by
 obtain⟨oa,cap,rfl,h2,h3⟩:=h
 have:∀m,m≤n→∃xs:List α,xs.length=m∧(∀x∈xs,Q x)∧∀i x,xs[i]? = some x→∃e o cs,oa=some ⟨e,o,none⟩∧mem w e=some cs∧o+(i+1)*E.sz≤cs.length∧(cs.drop (o+i*E.sz)).take E.sz=E.enc x:=by
  intro m
  induction m with
  | zero=>exact fun _=>⟨[],rfl,by simp,by simp⟩
  | succ m ih =>
   intro hm
   obtain⟨xs,hl,hq,hx⟩:=ih (by omega)
   obtain⟨e,o,cs,g1,g3,g4,g5⟩:=h3 m (by omega)
   obtain⟨a,ha,hqa⟩:=hE _ g5
   refine⟨xs++[a],by simp [hl],fun x hx=>?_,fun i x hi=>?_⟩
   ·rcases List.mem_append.1 hx with h | h
    ·exact hq x h
    ·rw [List.mem_singleton.1 h];exact hqa
   rcases Nat.lt_or_ge i xs.length with hlt | hge
   ·rw [List.getElem?_append_left hlt] at hi
    exact hx i x hi
   ·rw [List.getElem?_append_right hge] at hi
    have:i=m:=by
     rcases Nat.lt_or_ge (i-xs.length) 1 with h1 | h1
     ·omega
     ·rw [List.getElem?_eq_none (by simpa using h1)] at hi;cases hi
    subst this
    rw [hl,Nat.sub_self] at hi
    cases hi
    exact⟨e,o,cs,g1,g3,g4,ha.symm⟩
 obtain⟨xs,hl,hq,hx⟩:=this n (Nat.le_refl n)
 refine⟨xs,⟨oa,cap,by rw [hl],fun h=>⟨?_,(h2 h).2⟩,hx⟩,hq,hl⟩
 exact List.eq_nil_of_length_eq_zero (by rw [hl];exact(h2 h).1)
structure cw where
 version:Int
 held:Bool
 owner:Int
 deriving DecidableEq
abbrev cw.cells (a:cw):List Value:=[u64 a.version,.bool a.held,i64 a.owner]
abbrev UU:List CK:=[.i .u64,.b,.i .i64]
abbrev lJ:jS cw:=⟨3,cw.cells,fun | [.int .u64 x0,.bool x1,.int .i64 x2]=>some ⟨x0,x1,x2⟩ | _=>none,by decide,fun _=>rfl,by simp [one],fun cs a h=>by split at h <;> cases h;rfl⟩
instance {a:cw}:fx lJ a [u64 a.version,.bool a.held,i64 a.owner]:=⟨rfl⟩
instance {x0:Int}{x1:Bool}{x2:Int}:gx lJ [u64 x0,.bool x1,i64 x2] ⟨x0,x1,x2⟩:=⟨rfl⟩
theorem cw.eqb (a b:cw):(decide (a.version=b.version) && ((a.held == b.held) && decide (a.owner=b.owner)))=decide (a=b):=by
 obtain⟨x0,x1,x2⟩:=a
 obtain⟨y0,y1,y2⟩:=b
 rw [Bool.eq_iff_iff]
 simp [and_assoc]
structure fQ where
 stripe:Int
 version:Int
 deriving DecidableEq
abbrev fQ.cells (a:fQ):List Value:=[i64 a.stripe,u64 a.version]
abbrev S6:List CK:=[.i .i64,.i .u64]
abbrev gq:jS fQ:=⟨2,fQ.cells,fun | [.int .i64 x0,.int .u64 x1]=>some ⟨x0,x1⟩ | _=>none,by decide,fun _=>rfl,by simp [one],fun cs a h=>by split at h <;> cases h;rfl⟩
instance {a:fQ}:fx gq a [i64 a.stripe,u64 a.version]:=⟨rfl⟩
instance {x0:Int}{x1:Int}:gx gq [i64 x0,u64 x1] ⟨x0,x1⟩:=⟨rfl⟩
theorem fQ.eqb (a b:fQ):(decide (a.stripe=b.stripe) && decide (a.version=b.version))=decide (a=b):=by
 obtain⟨x0,x1⟩:=a
 obtain⟨y0,y1⟩:=b
 rw [Bool.eq_iff_iff]
 simp [and_assoc]
structure au where
 place:Int
 word:Int
 deriving DecidableEq
abbrev au.cells (a:au):List Value:=[i64 a.place,u64 a.word]
abbrev IZ:List CK:=[.i .i64,.i .u64]
abbrev bf:jS au:=⟨2,au.cells,fun | [.int .i64 x0,.int .u64 x1]=>some ⟨x0,x1⟩ | _=>none,by decide,fun _=>rfl,by simp [one],fun cs a h=>by split at h <;> cases h;rfl⟩
instance {a:au}:fx bf a [i64 a.place,u64 a.word]:=⟨rfl⟩
instance {x0:Int}{x1:Int}:gx bf [i64 x0,u64 x1] ⟨x0,x1⟩:=⟨rfl⟩
theorem au.eqb (a b:au):(decide (a.place=b.place) && decide (a.word=b.word))=decide (a=b):=by
 obtain⟨x0,x1⟩:=a
 obtain⟨y0,y1⟩:=b
 rw [Bool.eq_iff_iff]
 simp [and_assoc]
structure pc where
 place:Int
 stamp:Int
 deriving DecidableEq
abbrev pc.cells (a:pc):List Value:=[i64 a.place,u64 a.stamp]
abbrev UL:List CK:=[.i .i64,.i .u64]
abbrev ck:jS pc:=⟨2,pc.cells,fun | [.int .i64 x0,.int .u64 x1]=>some ⟨x0,x1⟩ | _=>none,by decide,fun _=>rfl,by simp [one],fun cs a h=>by split at h <;> cases h;rfl⟩
instance {a:pc}:fx ck a [i64 a.place,u64 a.stamp]:=⟨rfl⟩
instance {x0:Int}{x1:Int}:gx ck [i64 x0,u64 x1] ⟨x0,x1⟩:=⟨rfl⟩
theorem pc.eqb (a b:pc):(decide (a.place=b.place) && decide (a.stamp=b.stamp))=decide (a=b):=by
 obtain⟨x0,x1⟩:=a
 obtain⟨y0,y1⟩:=b
 rw [Bool.eq_iff_iff]
 simp [and_assoc]
structure Fd where
 key:Int
 val:Int
 deriving DecidableEq
abbrev Fd.cells (a:Fd):List Value:=[u64 a.key,u64 a.val]
abbrev UR:List CK:=[.i .u64,.i .u64]
abbrev Pt:jS Fd:=⟨2,Fd.cells,fun | [.int .u64 x0,.int .u64 x1]=>some ⟨x0,x1⟩ | _=>none,by decide,fun _=>rfl,by simp [one],fun cs a h=>by split at h <;> cases h;rfl⟩
instance {a:Fd}:fx Pt a [u64 a.key,u64 a.val]:=⟨rfl⟩
instance {x0:Int}{x1:Int}:gx Pt [u64 x0,u64 x1] ⟨x0,x1⟩:=⟨rfl⟩
theorem Fd.eqb (a b:Fd):(decide (a.key=b.key) && decide (a.val=b.val))=decide (a=b):=by
 obtain⟨x0,x1⟩:=a
 obtain⟨y0,y1⟩:=b
 rw [Bool.eq_iff_iff]
 simp [and_assoc]
structure zM where
 place:Int
 class_:Int
 live:Bool
 deriving DecidableEq
abbrev zM.cells (a:zM):List Value:=[i64 a.place,i64 a.class_,.bool a.live]
abbrev UH:List CK:=[.i .i64,.i .i64,.b]
abbrev ME:jS zM:=⟨3,zM.cells,fun | [.int .i64 x0,.int .i64 x1,.bool x2]=>some ⟨x0,x1,x2⟩ | _=>none,by decide,fun _=>rfl,by simp [one],fun cs a h=>by split at h <;> cases h;rfl⟩
instance {a:zM}:fx ME a [i64 a.place,i64 a.class_,.bool a.live]:=⟨rfl⟩
instance {x0:Int}{x1:Int}{x2:Bool}:gx ME [i64 x0,i64 x1,.bool x2] ⟨x0,x1,x2⟩:=⟨rfl⟩
theorem zM.eqb (a b:zM):(decide (a.place=b.place) && (decide (a.class_=b.class_) && (a.live == b.live)))=decide (a=b):=by
 obtain⟨x0,x1,x2⟩:=a
 obtain⟨y0,y1,y2⟩:=b
 rw [Bool.eq_iff_iff]
 simp [and_assoc]
structure rv where
 kind:Int
 place:Int
 old:Int
 word:Int
 was:cw
 lock:cw
 deriving DecidableEq
abbrev rv.cells (a:rv):List Value:=[i64 a.kind,i64 a.place,u64 a.old,u64 a.word,u64 a.was.version,.bool a.was.held,i64 a.was.owner,u64 a.lock.version,.bool a.lock.held,i64 a.lock.owner]
abbrev UW:List CK:=[.i .i64,.i .i64,.i .u64,.i .u64,.i .u64,.b,.i .i64,.i .u64,.b,.i .i64]
abbrev Th:jS rv:=⟨10,rv.cells,fun | [.int .i64 x0,.int .i64 x1,.int .u64 x2,.int .u64 x3,.int .u64 x4,.bool x5,.int .i64 x6,.int .u64 x7,.bool x8,.int .i64 x9]=>some ⟨x0,x1,x2,x3,⟨x4,x5,x6⟩,⟨x7,x8,x9⟩⟩ | _=>none,by decide,fun _=>rfl,by simp [one],fun cs a h=>by split at h <;> cases h;rfl⟩
instance {a:rv}:fx Th a [i64 a.kind,i64 a.place,u64 a.old,u64 a.word,u64 a.was.version,.bool a.was.held,i64 a.was.owner,u64 a.lock.version,.bool a.lock.held,i64 a.lock.owner]:=⟨rfl⟩
instance {x0:Int}{x1:Int}{x2:Int}{x3:Int}{x4:Int}{x5:Bool}{x6:Int}{x7:Int}{x8:Bool}{x9:Int}:gx Th [i64 x0,i64 x1,u64 x2,u64 x3,u64 x4,.bool x5,i64 x6,u64 x7,.bool x8,i64 x9] ⟨x0,x1,x2,x3,⟨x4,x5,x6⟩,⟨x7,x8,x9⟩⟩:=⟨rfl⟩
theorem rv.eqb (a b:rv):(decide (a.kind=b.kind) && (decide (a.place=b.place) && (decide (a.old=b.old) && (decide (a.word=b.word) && (decide (a.was.version=b.was.version) && ((a.was.held == b.was.held) && (decide (a.was.owner=b.was.owner) && (decide (a.lock.version=b.lock.version) && ((a.lock.held == b.lock.held) && decide (a.lock.owner=b.lock.owner))))))))))=decide (a=b):=by
 obtain⟨x0,x1,x2,x3,⟨x4,x5,x6⟩,⟨x7,x8,x9⟩⟩:=a
 obtain⟨y0,y1,y2,y3,⟨y4,y5,y6⟩,⟨y7,y8,y9⟩⟩:=b
 rw [Bool.eq_iff_iff]
 simp [and_assoc]
structure fH where
 word:Int
 lock:cw
 done:Bool
 err:Int
 deriving DecidableEq
abbrev fH.cells (a:fH):List Value:=[u64 a.word,u64 a.lock.version,.bool a.lock.held,i64 a.lock.owner,.bool a.done,i64 a.err]
abbrev UZ:List CK:=[.i .u64,.i .u64,.b,.i .i64,.b,.i .i64]
abbrev Sm:jS fH:=⟨6,fH.cells,fun | [.int .u64 x0,.int .u64 x1,.bool x2,.int .i64 x3,.bool x4,.int .i64 x5]=>some ⟨x0,⟨x1,x2,x3⟩,x4,x5⟩ | _=>none,by decide,fun _=>rfl,by simp [one],fun cs a h=>by split at h <;> cases h;rfl⟩
instance {a:fH}:fx Sm a [u64 a.word,u64 a.lock.version,.bool a.lock.held,i64 a.lock.owner,.bool a.done,i64 a.err]:=⟨rfl⟩
instance {x0:Int}{x1:Int}{x2:Bool}{x3:Int}{x4:Bool}{x5:Int}:gx Sm [u64 x0,u64 x1,.bool x2,i64 x3,.bool x4,i64 x5] ⟨x0,⟨x1,x2,x3⟩,x4,x5⟩:=⟨rfl⟩
theorem fH.eqb (a b:fH):(decide (a.word=b.word) && (decide (a.lock.version=b.lock.version) && ((a.lock.held == b.lock.held) && (decide (a.lock.owner=b.lock.owner) && ((a.done == b.done) && decide (a.err=b.err))))))=decide (a=b):=by
 obtain⟨x0,⟨x1,x2,x3⟩,x4,x5⟩:=a
 obtain⟨y0,⟨y1,y2,y3⟩,y4,y5⟩:=b
 rw [Bool.eq_iff_iff]
 simp [and_assoc]
structure jv where
 words:Int
 stripes:Int
 wide:Int
 threads:Int
 start:Int
 deriving DecidableEq
abbrev jv.cells (a:jv):List Value:=[i64 a.words,i64 a.stripes,i64 a.wide,i64 a.threads,u64 a.start]
abbrev UF:List CK:=[.i .i64,.i .i64,.i .i64,.i .i64,.i .u64]
abbrev Ml:jS jv:=⟨5,jv.cells,fun | [.int .i64 x0,.int .i64 x1,.int .i64 x2,.int .i64 x3,.int .u64 x4]=>some ⟨x0,x1,x2,x3,x4⟩ | _=>none,by decide,fun _=>rfl,by simp [one],fun cs a h=>by split at h <;> cases h;rfl⟩
instance {a:jv}:fx Ml a [i64 a.words,i64 a.stripes,i64 a.wide,i64 a.threads,u64 a.start]:=⟨rfl⟩
instance {x0:Int}{x1:Int}{x2:Int}{x3:Int}{x4:Int}:gx Ml [i64 x0,i64 x1,i64 x2,i64 x3,u64 x4] ⟨x0,x1,x2,x3,x4⟩:=⟨rfl⟩
theorem jv.eqb (a b:jv):(decide (a.words=b.words) && (decide (a.stripes=b.stripes) && (decide (a.wide=b.wide) && (decide (a.threads=b.threads) && decide (a.start=b.start)))))=decide (a=b):=by
 obtain⟨x0,x1,x2,x3,x4⟩:=a
 obtain⟨y0,y1,y2,y3,y4⟩:=b
 rw [Bool.eq_iff_iff]
 simp [and_assoc]
structure FH where
 sort:Int
 n:Int
 deriving DecidableEq
abbrev FH.cells (a:FH):List Value:=[i64 a.sort,u64 a.n]
abbrev US:List CK:=[.i .i64,.i .u64]
abbrev QM:jS FH:=⟨2,FH.cells,fun | [.int .i64 x0,.int .u64 x1]=>some ⟨x0,x1⟩ | _=>none,by decide,fun _=>rfl,by simp [one],fun cs a h=>by split at h <;> cases h;rfl⟩
instance {a:FH}:fx QM a [i64 a.sort,u64 a.n]:=⟨rfl⟩
instance {x0:Int}{x1:Int}:gx QM [i64 x0,u64 x1] ⟨x0,x1⟩:=⟨rfl⟩
theorem FH.eqb (a b:FH):(decide (a.sort=b.sort) && decide (a.n=b.n))=decide (a=b):=by
 obtain⟨x0,x1⟩:=a
 obtain⟨y0,y1⟩:=b
 rw [Bool.eq_iff_iff]
 simp [and_assoc]
structure ue where
 store:Bool
 place:Int
 v:Int
 deriving DecidableEq
abbrev ue.cells (a:ue):List Value:=[.bool a.store,i64 a.place,u64 a.v]
abbrev Ua:List CK:=[.b,.i .i64,.i .u64]
abbrev K3:jS ue:=⟨3,ue.cells,fun | [.bool x0,.int .i64 x1,.int .u64 x2]=>some ⟨x0,x1,x2⟩ | _=>none,by decide,fun _=>rfl,by simp [one],fun cs a h=>by split at h <;> cases h;rfl⟩
instance {a:ue}:fx K3 a [.bool a.store,i64 a.place,u64 a.v]:=⟨rfl⟩
instance {x0:Bool}{x1:Int}{x2:Int}:gx K3 [.bool x0,i64 x1,u64 x2] ⟨x0,x1,x2⟩:=⟨rfl⟩
theorem ue.eqb (a b:ue):((a.store == b.store) && (decide (a.place=b.place) && decide (a.v=b.v)))=decide (a=b):=by
 obtain⟨x0,x1,x2⟩:=a
 obtain⟨y0,y1,y2⟩:=b
 rw [Bool.eq_iff_iff]
 simp [and_assoc]
structure nv where
 kind:Int
 i:Int
 was:cw
 l:cw
 deriving DecidableEq
abbrev nv.cells (a:nv):List Value:=[i64 a.kind,i64 a.i,u64 a.was.version,.bool a.was.held,i64 a.was.owner,u64 a.l.version,.bool a.l.held,i64 a.l.owner]
abbrev To:List CK:=[.i .i64,.i .i64,.i .u64,.b,.i .i64,.i .u64,.b,.i .i64]
abbrev EP:jS nv:=⟨8,nv.cells,fun | [.int .i64 x0,.int .i64 x1,.int .u64 x2,.bool x3,.int .i64 x4,.int .u64 x5,.bool x6,.int .i64 x7]=>some ⟨x0,x1,⟨x2,x3,x4⟩,⟨x5,x6,x7⟩⟩ | _=>none,by decide,fun _=>rfl,by simp [one],fun cs a h=>by split at h <;> cases h;rfl⟩
instance {a:nv}:fx EP a [i64 a.kind,i64 a.i,u64 a.was.version,.bool a.was.held,i64 a.was.owner,u64 a.l.version,.bool a.l.held,i64 a.l.owner]:=⟨rfl⟩
instance {x0:Int}{x1:Int}{x2:Int}{x3:Bool}{x4:Int}{x5:Int}{x6:Bool}{x7:Int}:gx EP [i64 x0,i64 x1,u64 x2,.bool x3,i64 x4,u64 x5,.bool x6,i64 x7] ⟨x0,x1,⟨x2,x3,x4⟩,⟨x5,x6,x7⟩⟩:=⟨rfl⟩
theorem nv.eqb (a b:nv):(decide (a.kind=b.kind) && (decide (a.i=b.i) && (decide (a.was.version=b.was.version) && ((a.was.held == b.was.held) && (decide (a.was.owner=b.was.owner) && (decide (a.l.version=b.l.version) && ((a.l.held == b.l.held) && decide (a.l.owner=b.l.owner))))))))=decide (a=b):=by
 obtain⟨x0,x1,⟨x2,x3,x4⟩,⟨x5,x6,x7⟩⟩:=a
 obtain⟨y0,y1,⟨y2,y3,y4⟩,⟨y5,y6,y7⟩⟩:=b
 rw [Bool.eq_iff_iff]
 simp [and_assoc]
structure qT where
 ripe:Bool
 stamp:Int
 blocks:lD
 slots:lD
abbrev qT.cells (a:qT):List Value:=[.bool a.ripe,u64 a.stamp,.slice a.blocks.a a.blocks.n a.blocks.c,.slice a.slots.a a.slots.n a.slots.c]
abbrev TN:List NK:=[.p .b,.p (.i .u64),.s [.i .i64],.s [.i .u64]]
abbrev HE:jS qT:=⟨4,qT.cells,fun | [.bool x0,.int .u64 x1,.slice x2a x2n x2c,.slice x3a x3n x3c]=>some ⟨x0,x1,⟨x2a,x2n,x2c⟩,⟨x3a,x3n,x3c⟩⟩ | _=>none,by decide,fun _=>rfl,by simp [one],fun cs a h=>by split at h <;> cases h;rfl⟩
instance {a:qT}:fx HE a [.bool a.ripe,u64 a.stamp,.slice a.blocks.a a.blocks.n a.blocks.c,.slice a.slots.a a.slots.n a.slots.c]:=⟨rfl⟩
instance {x0:Bool}{x1:Int}{x2a:Option Addr}{x2n x2c:Nat}{x3a:Option Addr}{x3n x3c:Nat}:gx HE [.bool x0,u64 x1,.slice x2a x2n x2c,.slice x3a x3n x3c] ⟨x0,x1,⟨x2a,x2n,x2c⟩,⟨x3a,x3n,x3c⟩⟩:=⟨rfl⟩
def qT.Q (w:bh)(a:qT):Prop:=(∃ys,Av w a.blocks.v bg ys)∧(∃ys,Av w a.slots.v cx ys)
structure zb where
 word:Int
 known:Bool
 deriving DecidableEq
abbrev zb.cells (a:zb):List Value:=[u64 a.word,.bool a.known]
abbrev UQ:List CK:=[.i .u64,.b]
abbrev qS:jS zb:=⟨2,zb.cells,fun | [.int .u64 x0,.bool x1]=>some ⟨x0,x1⟩ | _=>none,by decide,fun _=>rfl,by simp [one],fun cs a h=>by split at h <;> cases h;rfl⟩
instance {a:zb}:fx qS a [u64 a.word,.bool a.known]:=⟨rfl⟩
instance {x0:Int}{x1:Bool}:gx qS [u64 x0,.bool x1] ⟨x0,x1⟩:=⟨rfl⟩
theorem zb.eqb (a b:zb):(decide (a.word=b.word) && (a.known == b.known))=decide (a=b):=by
 obtain⟨x0,x1⟩:=a
 obtain⟨y0,y1⟩:=b
 rw [Bool.eq_iff_iff]
 simp [and_assoc]
structure z3 where
 c:lD
 f:lD
abbrev z3.cells (a:z3):List Value:=[.slice a.c.a a.c.n a.c.c,.slice a.f.a a.f.n a.f.c]
abbrev UG:List NK:=[.s IZ,.s [.i .i64]]
abbrev Mn:jS z3:=⟨2,z3.cells,fun | [.slice x0a x0n x0c,.slice x1a x1n x1c]=>some ⟨⟨x0a,x0n,x0c⟩,⟨x1a,x1n,x1c⟩⟩ | _=>none,by decide,fun _=>rfl,by simp [one],fun cs a h=>by split at h <;> cases h;rfl⟩
instance {a:z3}:fx Mn a [.slice a.c.a a.c.n a.c.c,.slice a.f.a a.f.n a.f.c]:=⟨rfl⟩
instance {x0a:Option Addr}{x0n x0c:Nat}{x1a:Option Addr}{x1n x1c:Nat}:gx Mn [.slice x0a x0n x0c,.slice x1a x1n x1c] ⟨⟨x0a,x0n,x0c⟩,⟨x1a,x1n,x1c⟩⟩:=⟨rfl⟩
def z3.Q (w:bh)(a:z3):Prop:=(∃ys,Av w a.c.v bf ys)∧(∃ys,Av w a.f.v bg ys)
structure nD where
 kind:Int
 place:Int
 v:Int
 cs:lD
abbrev nD.cells (a:nD):List Value:=[i64 a.kind,i64 a.place,u64 a.v,.slice a.cs.a a.cs.n a.cs.c]
abbrev TD:List NK:=[.p (.i .i64),.p (.i .i64),.p (.i .u64),.s IZ]
abbrev FU:jS nD:=⟨4,nD.cells,fun | [.int .i64 x0,.int .i64 x1,.int .u64 x2,.slice x3a x3n x3c]=>some ⟨x0,x1,x2,⟨x3a,x3n,x3c⟩⟩ | _=>none,by decide,fun _=>rfl,by simp [one],fun cs a h=>by split at h <;> cases h;rfl⟩
instance {a:nD}:fx FU a [i64 a.kind,i64 a.place,u64 a.v,.slice a.cs.a a.cs.n a.cs.c]:=⟨rfl⟩
instance {x0:Int}{x1:Int}{x2:Int}{x3a:Option Addr}{x3n x3c:Nat}:gx FU [i64 x0,i64 x1,u64 x2,.slice x3a x3n x3c] ⟨x0,x1,x2,⟨x3a,x3n,x3c⟩⟩:=⟨rfl⟩
def nD.Q (w:bh)(a:nD):Prop:=(∃ys,Av w a.cs.v bf ys)
structure np where
 take:Bool
 c:au
 l:lD
abbrev np.cells (a:np):List Value:=[.bool a.take,i64 a.c.place,u64 a.c.word,.slice a.l.a a.l.n a.l.c]
abbrev S4:List NK:=[.p .b,.p (.i .i64),.p (.i .u64),.s IZ]
abbrev FD:jS np:=⟨4,np.cells,fun | [.bool x0,.int .i64 x1,.int .u64 x2,.slice x3a x3n x3c]=>some ⟨x0,⟨x1,x2⟩,⟨x3a,x3n,x3c⟩⟩ | _=>none,by decide,fun _=>rfl,by simp [one],fun cs a h=>by split at h <;> cases h;rfl⟩
instance {a:np}:fx FD a [.bool a.take,i64 a.c.place,u64 a.c.word,.slice a.l.a a.l.n a.l.c]:=⟨rfl⟩
instance {x0:Bool}{x1:Int}{x2:Int}{x3a:Option Addr}{x3n x3c:Nat}:gx FD [.bool x0,i64 x1,u64 x2,.slice x3a x3n x3c] ⟨x0,⟨x1,x2⟩,⟨x3a,x3n,x3c⟩⟩:=⟨rfl⟩
def np.Q (w:bh)(a:np):Prop:=(∃ys,Av w a.l.v bf ys)
structure Ea where
 me:Int
 spins:Int
 stamp:Int
 seen:lD
 cs:lD
 others:lD
 start:Int
 stripes:Int
 wide:Int
abbrev Ea.cells (a:Ea):List Value:=[i64 a.me,i64 a.spins,i64 a.stamp,.slice a.seen.a a.seen.n a.seen.c,.slice a.cs.a a.cs.n a.cs.c,.slice a.others.a a.others.n a.others.c,u64 a.start,i64 a.stripes,i64 a.wide]
abbrev UO:List NK:=[.p (.i .i64),.p (.i .i64),.p (.i .i64),.s S6,.s IZ,.s UW,.p (.i .u64),.p (.i .i64),.p (.i .i64)]
abbrev Pw:jS Ea:=⟨9,Ea.cells,fun | [.int .i64 x0,.int .i64 x1,.int .i64 x2,.slice x3a x3n x3c,.slice x4a x4n x4c,.slice x5a x5n x5c,.int .u64 x6,.int .i64 x7,.int .i64 x8]=>some ⟨x0,x1,x2,⟨x3a,x3n,x3c⟩,⟨x4a,x4n,x4c⟩,⟨x5a,x5n,x5c⟩,x6,x7,x8⟩ | _=>none,by decide,fun _=>rfl,by simp [one],fun cs a h=>by split at h <;> cases h;rfl⟩
instance {a:Ea}:fx Pw a [i64 a.me,i64 a.spins,i64 a.stamp,.slice a.seen.a a.seen.n a.seen.c,.slice a.cs.a a.cs.n a.cs.c,.slice a.others.a a.others.n a.others.c,u64 a.start,i64 a.stripes,i64 a.wide]:=⟨rfl⟩
instance {x0:Int}{x1:Int}{x2:Int}{x3a:Option Addr}{x3n x3c:Nat}{x4a:Option Addr}{x4n x4c:Nat}{x5a:Option Addr}{x5n x5c:Nat}{x6:Int}{x7:Int}{x8:Int}:gx Pw [i64 x0,i64 x1,i64 x2,.slice x3a x3n x3c,.slice x4a x4n x4c,.slice x5a x5n x5c,u64 x6,i64 x7,i64 x8] ⟨x0,x1,x2,⟨x3a,x3n,x3c⟩,⟨x4a,x4n,x4c⟩,⟨x5a,x5n,x5c⟩,x6,x7,x8⟩:=⟨rfl⟩
def Ea.Q (w:bh)(a:Ea):Prop:=(∃ys,Av w a.seen.v gq ys)∧(∃ys,Av w a.cs.v bf ys)∧(∃ys,Av w a.others.v Th ys)
structure Eg where
 mine:Bool
 again:Bool
 deriving DecidableEq
abbrev Eg.cells (a:Eg):List Value:=[.bool a.mine,.bool a.again]
abbrev UP:List CK:=[.b,.b]
abbrev Qo:jS Eg:=⟨2,Eg.cells,fun | [.bool x0,.bool x1]=>some ⟨x0,x1⟩ | _=>none,by decide,fun _=>rfl,by simp [one],fun cs a h=>by split at h <;> cases h;rfl⟩
instance {a:Eg}:fx Qo a [.bool a.mine,.bool a.again]:=⟨rfl⟩
instance {x0:Bool}{x1:Bool}:gx Qo [.bool x0,.bool x1] ⟨x0,x1⟩:=⟨rfl⟩
theorem Eg.eqb (a b:Eg):((a.mine == b.mine) && (a.again == b.again))=decide (a=b):=by
 obtain⟨x0,x1⟩:=a
 obtain⟨y0,y1⟩:=b
 rw [Bool.eq_iff_iff]
 simp [and_assoc]
structure Fy where
 what:Int
 root:Int
 k:Int
 x:Int
 deriving DecidableEq
abbrev Fy.cells (a:Fy):List Value:=[i64 a.what,i64 a.root,u64 a.k,u64 a.x]
abbrev UV:List CK:=[.i .i64,.i .i64,.i .u64,.i .u64]
abbrev Qb:jS Fy:=⟨4,Fy.cells,fun | [.int .i64 x0,.int .i64 x1,.int .u64 x2,.int .u64 x3]=>some ⟨x0,x1,x2,x3⟩ | _=>none,by decide,fun _=>rfl,by simp [one],fun cs a h=>by split at h <;> cases h;rfl⟩
instance {a:Fy}:fx Qb a [i64 a.what,i64 a.root,u64 a.k,u64 a.x]:=⟨rfl⟩
instance {x0:Int}{x1:Int}{x2:Int}{x3:Int}:gx Qb [i64 x0,i64 x1,u64 x2,u64 x3] ⟨x0,x1,x2,x3⟩:=⟨rfl⟩
theorem Fy.eqb (a b:Fy):(decide (a.what=b.what) && (decide (a.root=b.root) && (decide (a.k=b.k) && decide (a.x=b.x))))=decide (a=b):=by
 obtain⟨x0,x1,x2,x3⟩:=a
 obtain⟨y0,y1,y2,y3⟩:=b
 rw [Bool.eq_iff_iff]
 simp [and_assoc]
theorem di {k:Nat}(h:k<4611686018427387904):IntKind.wrap .i64 ((k:Int)+1)=((k+1:Nat):Int):=by
 rw [Go.IntWalk.i64_in _ (by omega)];rfl
theorem iy {n:Int}(h:-9223372036854775808≤n)(h':n≤9223372036854775807):IntKind.wrap .i64 n=n:=Go.IntWalk.i64_in _ ⟨h,h'⟩
theorem PM {n:Int}(h:0≤n)(h':n≤18446744073709551615):IntKind.wrap .u64 n=n:=Go.IntWalk.u64_in _ ⟨h,h'⟩
def UC (k:IntKind)(n:Int):Prop:=(Lit.int k n).wf=true
theorem TM {n:Int}(h:UC .u8 n):0≤n∧n≤255:=by simp [UC,Lit.wf,IntKind.min,IntKind.max,IntKind.signed,IntKind.bits] at h;omega
theorem M0 {n:Int}(h:UC .u64 n):0≤n∧n≤18446744073709551615:=by simp [UC,Lit.wf,IntKind.min,IntKind.max,IntKind.signed,IntKind.bits] at h;omega
def held (n lo hi:Int):Int:=if n<lo then lo else if n > hi then hi else n
theorem ft {n lo hi:Int}(h:lo≤hi):lo≤held n lo hi∧held n lo hi≤hi:=by unfold held;split <;> (try split) <;> omega
def iW (b:Nat)(xs:List Int):ay:=mW fun v=>bk (ie (ar v [v])) (bk (own b [v]) (sl cx v xs))
theorem gy {w0:bh}{M:List ay}{F:World→Prop}{b:Nat}{xs:List Int}:G w0 (ob iW b xs::M) F=∀v,ar v [v]→G w0 (own b [v]::sl cx v xs::M) F:=by
 rw [eZ,iW]
 simp only [qv,fa,fU]
def kj {α:Type}(E:jS α)(b:Nat)(xs:List α):ay:=mW fun v=>bk (ie (ar v [v])) (bk (own b [v]) (sl E v xs))
theorem eK {α:Type}{E:jS α}{w0:bh}{M:List ay}{F:World→Prop}{b:Nat}{xs:List α}:G w0 (ob (kj E) b xs::M) F=∀v,ar v [v]→G w0 (own b [v]::sl E v xs::M) F:=by
 rw [eZ,kj]
 simp only [qv,fa,fU]
class ez (As L:List ay)(M:outParam (List ay)):Prop where
 eq:da L=da (As++M)
instance ez.nil {L:List ay}:ez [] L L:=⟨rfl⟩
instance ez.cons {A:ay}{As L M1 M:List ay}[p:L2 L A M1][q:ez As M1 M]:ez (A::As) L M:=⟨by
 rw [p.eq]
 show bk A (da M1)=bk A (da (As++M))
 rw [q.eq]⟩
theorem G.pickAll {As L M:List ay}{w0:bh}{F:World→Prop}[p:ez As L M](h:G w0 (As++M) F):G w0 L F:=by
 rw [dm p.eq];exact h
theorem ct {α:Type}{xs:List α}{k:Nat}(h:k<xs.length):eU xs k xs[k]:=⟨List.getElem?_eq_getElem h⟩
theorem eU.lt {α:Type}{xs:List α}{k:Nat}{x:α}(h:eU xs k x):k<xs.length:=by
 rcases Nat.lt_or_ge k xs.length with h1 | h1
 ·exact h1
 ·have:=h.eq;simp [List.getElem?_eq_none h1] at this
end Go.Proofs.YtoealglbimbbmaaGreatDoor.S
