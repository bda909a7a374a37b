import Derived.Test.YtoealglbimbbmaaGreatDoorSl
import Derived.Test.YtoealglbimbbmaaGreatDoorNest
namespace Go.Proofs.YtoealglbimbbmaaGreatDoor.S
open Go Go.Proofs
set_option linter.unusedVariables false
set_option linter.unusedSimpArgs false
abbrev de:jB Int:=⟨1,fun n=>[u64 n],fun | [.int .u64 n]=>some n | _=>none,by decide,fun _=>rfl,by simp [one],fun cs a h=>by split at h <;> simp_all⟩
instance {n:Int}:e9 de n [u64 n]:=⟨rfl⟩
instance {n:Int}:fy de [u64 n] n:=⟨rfl⟩
abbrev cd:jB Int:=⟨1,fun n=>[i64 n],fun | [.int .i64 n]=>some n | _=>none,by decide,fun _=>rfl,by simp [one],fun cs a h=>by split at h <;> simp_all⟩
instance {n:Int}:e9 cd n [i64 n]:=⟨rfl⟩
instance {n:Int}:fy cd [i64 n] n:=⟨rfl⟩
abbrev UB:jB Int:=⟨1,fun n=>[.int .u8 n],fun | [.int .u8 n]=>some n | _=>none,by decide,fun _=>rfl,by simp [one],fun cs a h=>by split at h <;> simp_all⟩
instance {n:Int}:e9 UB n [.int .u8 n]:=⟨rfl⟩
instance {n:Int}:fy UB [.int .u8 n] n:=⟨rfl⟩
abbrev Uc:jB Bool:=⟨1,fun n=>[.bool n],fun | [.bool n]=>some n | _=>none,by decide,fun _=>rfl,by simp [one],fun cs a h=>by split at h <;> simp_all⟩
instance {n:Bool}:e9 Uc n [.bool n]:=⟨rfl⟩
instance {n:Bool}:fy Uc [.bool n] n:=⟨rfl⟩
abbrev iJ:jB Nat:=⟨1,fun b=>[ptr b 0],fun | [.pointer (some ⟨b,0,none⟩)]=>some b | _=>none,by decide,fun _=>rfl,by simp [one],fun cs a h=>by split at h <;> simp_all⟩
instance {b:Nat}:e9 iJ b [ptr b 0]:=⟨rfl⟩
instance {b:Nat}:fy iJ [ptr b 0] b:=⟨rfl⟩
structure im where
 a:Option Addr
 n:Nat
 c:Nat
abbrev im.v (s:im):Value:=.slice s.a s.n s.c
theorem tF {α:Type}(E:jB α){Gd:List Value→Prop}(Q:α→Prop)(hE:∀cs,Gd cs→∃a,E.enc a=cs∧Q a){w:World}{v:Value}{n:Nat}(h:M7 E.sz Gd w v n):∃xs:List α,E8 (bg.of w) v E xs∧(∀x∈xs,Q x)∧xs.length=n:=by
 obtain⟨oa,cap,rfl,h2,h3⟩:=h
 have:∀m,m≤n→∃xs:List α,xs.length=m∧(∀x∈xs,Q x)∧∀i x,xs[i]? = some x→∃e o cs,oa=some ⟨e,o,none⟩∧mem w e=some cs∧o+(i+1)*E.sz≤cs.length∧(cs.drop (o+i*E.sz)).take E.sz=E.enc x:=by
  intro m
  induction m with
  | zero=>exact fun _=>⟨[],rfl,by simp,by simp⟩
  | succ m ih =>
   intro hm
   obtain⟨xs,hl,hq,hx⟩:=ih (by omega)
   obtain⟨e,o,cs,g1,g3,g4,g5⟩:=h3 m (by omega)
   obtain⟨a,ha,hqa⟩:=hE _ g5
   refine⟨xs++[a],by simp [hl],fun x hx=>?_,fun i x hi=>?_⟩
   ·rcases List.mem_append.1 hx with h | h
    ·exact hq x h
    ·rw [List.mem_singleton.1 h];exact hqa
   rcases Nat.lt_or_ge i xs.length with hlt | hge
   ·rw [List.getElem?_append_left hlt] at hi
    exact hx i x hi
   ·rw [List.getElem?_append_right hge] at hi
    have:i=m:=by
     rcases Nat.lt_or_ge (i-xs.length) 1 with h1 | h1
     ·omega
     ·rw [List.getElem?_eq_none (by simpa using h1)] at hi;cases hi
    subst this
    rw [hl,Nat.sub_self] at hi
    cases hi
    exact⟨e,o,cs,g1,g3,g4,ha.symm⟩
 obtain⟨xs,hl,hq,hx⟩:=this n (Nat.le_refl n)
 refine⟨xs,⟨oa,cap,by rw [hl],fun h=>⟨?_,(h2 h).2⟩,hx⟩,hq,hl⟩
 exact List.eq_nil_of_length_eq_zero (by rw [hl];exact(h2 h).1)
structure df where
 version:Int
 held:Bool
 owner:Int
 deriving DecidableEq
abbrev df.cells (a:df):List Value:=[u64 a.version,.bool a.held,i64 a.owner]
abbrev WS:List CK:=[.i .u64,.b,.i .i64]
abbrev lw:jB df:=⟨3,df.cells,fun | [.int .u64 x0,.bool x1,.int .i64 x2]=>some ⟨x0,x1,x2⟩ | _=>none,by decide,fun _=>rfl,by simp [one],fun cs a h=>by split at h <;> cases h;rfl⟩
instance {a:df}:e9 lw a [u64 a.version,.bool a.held,i64 a.owner]:=⟨rfl⟩
instance {x0:Int}{x1:Bool}{x2:Int}:fy lw [u64 x0,.bool x1,i64 x2] ⟨x0,x1,x2⟩:=⟨rfl⟩
theorem df.eqb (a b:df):(decide (a.version=b.version) && ((a.held == b.held) && decide (a.owner=b.owner)))=decide (a=b):=by
 obtain⟨x0,x1,x2⟩:=a
 obtain⟨y0,y1,y2⟩:=b
 rw [Bool.eq_iff_iff]
 simp [and_assoc]
structure fu where
 stripe:Int
 version:Int
 deriving DecidableEq
abbrev fu.cells (a:fu):List Value:=[i64 a.stripe,u64 a.version]
abbrev UY:List CK:=[.i .i64,.i .u64]
abbrev fM:jB fu:=⟨2,fu.cells,fun | [.int .i64 x0,.int .u64 x1]=>some ⟨x0,x1⟩ | _=>none,by decide,fun _=>rfl,by simp [one],fun cs a h=>by split at h <;> cases h;rfl⟩
instance {a:fu}:e9 fM a [i64 a.stripe,u64 a.version]:=⟨rfl⟩
instance {x0:Int}{x1:Int}:fy fM [i64 x0,u64 x1] ⟨x0,x1⟩:=⟨rfl⟩
theorem fu.eqb (a b:fu):(decide (a.stripe=b.stripe) && decide (a.version=b.version))=decide (a=b):=by
 obtain⟨x0,x1⟩:=a
 obtain⟨y0,y1⟩:=b
 rw [Bool.eq_iff_iff]
 simp [and_assoc]
structure aw where
 place:Int
 word:Int
 deriving DecidableEq
abbrev aw.cells (a:aw):List Value:=[i64 a.place,u64 a.word]
abbrev J8:List CK:=[.i .i64,.i .u64]
abbrev bd:jB aw:=⟨2,aw.cells,fun | [.int .i64 x0,.int .u64 x1]=>some ⟨x0,x1⟩ | _=>none,by decide,fun _=>rfl,by simp [one],fun cs a h=>by split at h <;> cases h;rfl⟩
instance {a:aw}:e9 bd a [i64 a.place,u64 a.word]:=⟨rfl⟩
instance {x0:Int}{x1:Int}:fy bd [i64 x0,u64 x1] ⟨x0,x1⟩:=⟨rfl⟩
theorem aw.eqb (a b:aw):(decide (a.place=b.place) && decide (a.word=b.word))=decide (a=b):=by
 obtain⟨x0,x1⟩:=a
 obtain⟨y0,y1⟩:=b
 rw [Bool.eq_iff_iff]
 simp [and_assoc]
structure nA where
 place:Int
 stamp:Int
 deriving DecidableEq
abbrev nA.cells (a:nA):List Value:=[i64 a.place,u64 a.stamp]
abbrev W4:List CK:=[.i .i64,.i .u64]
abbrev cy:jB nA:=⟨2,nA.cells,fun | [.int .i64 x0,.int .u64 x1]=>some ⟨x0,x1⟩ | _=>none,by decide,fun _=>rfl,by simp [one],fun cs a h=>by split at h <;> cases h;rfl⟩
instance {a:nA}:e9 cy a [i64 a.place,u64 a.stamp]:=⟨rfl⟩
instance {x0:Int}{x1:Int}:fy cy [i64 x0,u64 x1] ⟨x0,x1⟩:=⟨rfl⟩
theorem nA.eqb (a b:nA):(decide (a.place=b.place) && decide (a.stamp=b.stamp))=decide (a=b):=by
 obtain⟨x0,x1⟩:=a
 obtain⟨y0,y1⟩:=b
 rw [Bool.eq_iff_iff]
 simp [and_assoc]
structure ry where
 key:Int
 val:Int
 deriving DecidableEq
abbrev ry.cells (a:ry):List Value:=[u64 a.key,u64 a.val]
abbrev W1:List CK:=[.i .u64,.i .u64]
abbrev ji:jB ry:=⟨2,ry.cells,fun | [.int .u64 x0,.int .u64 x1]=>some ⟨x0,x1⟩ | _=>none,by decide,fun _=>rfl,by simp [one],fun cs a h=>by split at h <;> cases h;rfl⟩
instance {a:ry}:e9 ji a [u64 a.key,u64 a.val]:=⟨rfl⟩
instance {x0:Int}{x1:Int}:fy ji [u64 x0,u64 x1] ⟨x0,x1⟩:=⟨rfl⟩
theorem ry.eqb (a b:ry):(decide (a.key=b.key) && decide (a.val=b.val))=decide (a=b):=by
 obtain⟨x0,x1⟩:=a
 obtain⟨y0,y1⟩:=b
 rw [Bool.eq_iff_iff]
 simp [and_assoc]
structure Am where
 place:Int
 class_:Int
 live:Bool
 deriving DecidableEq
abbrev Am.cells (a:Am):List Value:=[i64 a.place,i64 a.class_,.bool a.live]
abbrev WM:List CK:=[.i .i64,.i .i64,.b]
abbrev OA:jB Am:=⟨3,Am.cells,fun | [.int .i64 x0,.int .i64 x1,.bool x2]=>some ⟨x0,x1,x2⟩ | _=>none,by decide,fun _=>rfl,by simp [one],fun cs a h=>by split at h <;> cases h;rfl⟩
instance {a:Am}:e9 OA a [i64 a.place,i64 a.class_,.bool a.live]:=⟨rfl⟩
instance {x0:Int}{x1:Int}{x2:Bool}:fy OA [i64 x0,i64 x1,.bool x2] ⟨x0,x1,x2⟩:=⟨rfl⟩
theorem Am.eqb (a b:Am):(decide (a.place=b.place) && (decide (a.class_=b.class_) && (a.live == b.live)))=decide (a=b):=by
 obtain⟨x0,x1,x2⟩:=a
 obtain⟨y0,y1,y2⟩:=b
 rw [Bool.eq_iff_iff]
 simp [and_assoc]
structure rv where
 kind:Int
 place:Int
 old:Int
 word:Int
 was:df
 lock:df
 deriving DecidableEq
abbrev rv.cells (a:rv):List Value:=[i64 a.kind,i64 a.place,u64 a.old,u64 a.word,u64 a.was.version,.bool a.was.held,i64 a.was.owner,u64 a.lock.version,.bool a.lock.held,i64 a.lock.owner]
abbrev WV:List CK:=[.i .i64,.i .i64,.i .u64,.i .u64,.i .u64,.b,.i .i64,.i .u64,.b,.i .i64]
abbrev U9:jB rv:=⟨10,rv.cells,fun | [.int .i64 x0,.int .i64 x1,.int .u64 x2,.int .u64 x3,.int .u64 x4,.bool x5,.int .i64 x6,.int .u64 x7,.bool x8,.int .i64 x9]=>some ⟨x0,x1,x2,x3,⟨x4,x5,x6⟩,⟨x7,x8,x9⟩⟩ | _=>none,by decide,fun _=>rfl,by simp [one],fun cs a h=>by split at h <;> cases h;rfl⟩
instance {a:rv}:e9 U9 a [i64 a.kind,i64 a.place,u64 a.old,u64 a.word,u64 a.was.version,.bool a.was.held,i64 a.was.owner,u64 a.lock.version,.bool a.lock.held,i64 a.lock.owner]:=⟨rfl⟩
instance {x0:Int}{x1:Int}{x2:Int}{x3:Int}{x4:Int}{x5:Bool}{x6:Int}{x7:Int}{x8:Bool}{x9:Int}:fy U9 [i64 x0,i64 x1,u64 x2,u64 x3,u64 x4,.bool x5,i64 x6,u64 x7,.bool x8,i64 x9] ⟨x0,x1,x2,x3,⟨x4,x5,x6⟩,⟨x7,x8,x9⟩⟩:=⟨rfl⟩
theorem rv.eqb (a b:rv):(decide (a.kind=b.kind) && (decide (a.place=b.place) && (decide (a.old=b.old) && (decide (a.word=b.word) && (decide (a.was.version=b.was.version) && ((a.was.held == b.was.held) && (decide (a.was.owner=b.was.owner) && (decide (a.lock.version=b.lock.version) && ((a.lock.held == b.lock.held) && decide (a.lock.owner=b.lock.owner))))))))))=decide (a=b):=by
 obtain⟨x0,x1,x2,x3,⟨x4,x5,x6⟩,⟨x7,x8,x9⟩⟩:=a
 obtain⟨y0,y1,y2,y3,⟨y4,y5,y6⟩,⟨y7,y8,y9⟩⟩:=b
 rw [Bool.eq_iff_iff]
 simp [and_assoc]
structure fi where
 word:Int
 lock:df
 done:Bool
 err:Int
 deriving DecidableEq
abbrev fi.cells (a:fi):List Value:=[u64 a.word,u64 a.lock.version,.bool a.lock.held,i64 a.lock.owner,.bool a.done,i64 a.err]
abbrev Xa:List CK:=[.i .u64,.i .u64,.b,.i .i64,.b,.i .i64]
abbrev Uk:jB fi:=⟨6,fi.cells,fun | [.int .u64 x0,.int .u64 x1,.bool x2,.int .i64 x3,.bool x4,.int .i64 x5]=>some ⟨x0,⟨x1,x2,x3⟩,x4,x5⟩ | _=>none,by decide,fun _=>rfl,by simp [one],fun cs a h=>by split at h <;> cases h;rfl⟩
instance {a:fi}:e9 Uk a [u64 a.word,u64 a.lock.version,.bool a.lock.held,i64 a.lock.owner,.bool a.done,i64 a.err]:=⟨rfl⟩
instance {x0:Int}{x1:Int}{x2:Bool}{x3:Int}{x4:Bool}{x5:Int}:fy Uk [u64 x0,u64 x1,.bool x2,i64 x3,.bool x4,i64 x5] ⟨x0,⟨x1,x2,x3⟩,x4,x5⟩:=⟨rfl⟩
theorem fi.eqb (a b:fi):(decide (a.word=b.word) && (decide (a.lock.version=b.lock.version) && ((a.lock.held == b.lock.held) && (decide (a.lock.owner=b.lock.owner) && ((a.done == b.done) && decide (a.err=b.err))))))=decide (a=b):=by
 obtain⟨x0,⟨x1,x2,x3⟩,x4,x5⟩:=a
 obtain⟨y0,⟨y1,y2,y3⟩,y4,y5⟩:=b
 rw [Bool.eq_iff_iff]
 simp [and_assoc]
structure jk where
 words:Int
 stripes:Int
 wide:Int
 threads:Int
 start:Int
 deriving DecidableEq
abbrev jk.cells (a:jk):List Value:=[i64 a.words,i64 a.stripes,i64 a.wide,i64 a.threads,u64 a.start]
abbrev WL:List CK:=[.i .i64,.i .i64,.i .i64,.i .i64,.i .u64]
abbrev Pc:jB jk:=⟨5,jk.cells,fun | [.int .i64 x0,.int .i64 x1,.int .i64 x2,.int .i64 x3,.int .u64 x4]=>some ⟨x0,x1,x2,x3,x4⟩ | _=>none,by decide,fun _=>rfl,by simp [one],fun cs a h=>by split at h <;> cases h;rfl⟩
instance {a:jk}:e9 Pc a [i64 a.words,i64 a.stripes,i64 a.wide,i64 a.threads,u64 a.start]:=⟨rfl⟩
instance {x0:Int}{x1:Int}{x2:Int}{x3:Int}{x4:Int}:fy Pc [i64 x0,i64 x1,i64 x2,i64 x3,u64 x4] ⟨x0,x1,x2,x3,x4⟩:=⟨rfl⟩
theorem jk.eqb (a b:jk):(decide (a.words=b.words) && (decide (a.stripes=b.stripes) && (decide (a.wide=b.wide) && (decide (a.threads=b.threads) && decide (a.start=b.start)))))=decide (a=b):=by
 obtain⟨x0,x1,x2,x3,x4⟩:=a
 obtain⟨y0,y1,y2,y3,y4⟩:=b
 rw [Bool.eq_iff_iff]
 simp [and_assoc]
structure FI where
 sort:Int
 n:Int
 deriving DecidableEq
abbrev FI.cells (a:FI):List Value:=[i64 a.sort,u64 a.n]
abbrev WX:List CK:=[.i .i64,.i .u64]
abbrev Sq:jB FI:=⟨2,FI.cells,fun | [.int .i64 x0,.int .u64 x1]=>some ⟨x0,x1⟩ | _=>none,by decide,fun _=>rfl,by simp [one],fun cs a h=>by split at h <;> cases h;rfl⟩
instance {a:FI}:e9 Sq a [i64 a.sort,u64 a.n]:=⟨rfl⟩
instance {x0:Int}{x1:Int}:fy Sq [i64 x0,u64 x1] ⟨x0,x1⟩:=⟨rfl⟩
theorem FI.eqb (a b:FI):(decide (a.sort=b.sort) && decide (a.n=b.n))=decide (a=b):=by
 obtain⟨x0,x1⟩:=a
 obtain⟨y0,y1⟩:=b
 rw [Bool.eq_iff_iff]
 simp [and_assoc]
structure tz where
 store:Bool
 place:Int
 v:Int
 deriving DecidableEq
abbrev tz.cells (a:tz):List Value:=[.bool a.store,i64 a.place,u64 a.v]
abbrev Ww:List CK:=[.b,.i .i64,.i .u64]
abbrev Ma:jB tz:=⟨3,tz.cells,fun | [.bool x0,.int .i64 x1,.int .u64 x2]=>some ⟨x0,x1,x2⟩ | _=>none,by decide,fun _=>rfl,by simp [one],fun cs a h=>by split at h <;> cases h;rfl⟩
instance {a:tz}:e9 Ma a [.bool a.store,i64 a.place,u64 a.v]:=⟨rfl⟩
instance {x0:Bool}{x1:Int}{x2:Int}:fy Ma [.bool x0,i64 x1,u64 x2] ⟨x0,x1,x2⟩:=⟨rfl⟩
theorem tz.eqb (a b:tz):((a.store == b.store) && (decide (a.place=b.place) && decide (a.v=b.v)))=decide (a=b):=by
 obtain⟨x0,x1,x2⟩:=a
 obtain⟨y0,y1,y2⟩:=b
 rw [Bool.eq_iff_iff]
 simp [and_assoc]
structure mY where
 kind:Int
 i:Int
 was:df
 l:df
 deriving DecidableEq
abbrev mY.cells (a:mY):List Value:=[i64 a.kind,i64 a.i,u64 a.was.version,.bool a.was.held,i64 a.was.owner,u64 a.l.version,.bool a.l.held,i64 a.l.owner]
abbrev Va:List CK:=[.i .i64,.i .i64,.i .u64,.b,.i .i64,.i .u64,.b,.i .i64]
abbrev Ha:jB mY:=⟨8,mY.cells,fun | [.int .i64 x0,.int .i64 x1,.int .u64 x2,.bool x3,.int .i64 x4,.int .u64 x5,.bool x6,.int .i64 x7]=>some ⟨x0,x1,⟨x2,x3,x4⟩,⟨x5,x6,x7⟩⟩ | _=>none,by decide,fun _=>rfl,by simp [one],fun cs a h=>by split at h <;> cases h;rfl⟩
instance {a:mY}:e9 Ha a [i64 a.kind,i64 a.i,u64 a.was.version,.bool a.was.held,i64 a.was.owner,u64 a.l.version,.bool a.l.held,i64 a.l.owner]:=⟨rfl⟩
instance {x0:Int}{x1:Int}{x2:Int}{x3:Bool}{x4:Int}{x5:Int}{x6:Bool}{x7:Int}:fy Ha [i64 x0,i64 x1,u64 x2,.bool x3,i64 x4,u64 x5,.bool x6,i64 x7] ⟨x0,x1,⟨x2,x3,x4⟩,⟨x5,x6,x7⟩⟩:=⟨rfl⟩
theorem mY.eqb (a b:mY):(decide (a.kind=b.kind) && (decide (a.i=b.i) && (decide (a.was.version=b.was.version) && ((a.was.held == b.was.held) && (decide (a.was.owner=b.was.owner) && (decide (a.l.version=b.l.version) && ((a.l.held == b.l.held) && decide (a.l.owner=b.l.owner))))))))=decide (a=b):=by
 obtain⟨x0,x1,⟨x2,x3,x4⟩,⟨x5,x6,x7⟩⟩:=a
 obtain⟨y0,y1,⟨y2,y3,y4⟩,⟨y5,y6,y7⟩⟩:=b
 rw [Bool.eq_iff_iff]
 simp [and_assoc]
structure qO where
 ripe:Bool
 stamp:Int
 blocks:im
 slots:im
abbrev qO.cells (a:qO):List Value:=[.bool a.ripe,u64 a.stamp,.slice a.blocks.a a.blocks.n a.blocks.c,.slice a.slots.a a.slots.n a.slots.c]
abbrev VO:List NK:=[.p .b,.p (.i .u64),.s [.i .i64],.s [.i .u64]]
abbrev Jb:jB qO:=⟨4,qO.cells,fun | [.bool x0,.int .u64 x1,.slice x2a x2n x2c,.slice x3a x3n x3c]=>some ⟨x0,x1,⟨x2a,x2n,x2c⟩,⟨x3a,x3n,x3c⟩⟩ | _=>none,by decide,fun _=>rfl,by simp [one],fun cs a h=>by split at h <;> cases h;rfl⟩
instance {a:qO}:e9 Jb a [.bool a.ripe,u64 a.stamp,.slice a.blocks.a a.blocks.n a.blocks.c,.slice a.slots.a a.slots.n a.slots.c]:=⟨rfl⟩
instance {x0:Bool}{x1:Int}{x2a:Option Addr}{x2n x2c:Nat}{x3a:Option Addr}{x3n x3c:Nat}:fy Jb [.bool x0,u64 x1,.slice x2a x2n x2c,.slice x3a x3n x3c] ⟨x0,x1,⟨x2a,x2n,x2c⟩,⟨x3a,x3n,x3c⟩⟩:=⟨rfl⟩
def qO.Q (w:bg)(a:qO):Prop:=(∃ys,E8 w a.blocks.v cd ys)∧(∃ys,E8 w a.slots.v de ys)
structure zP where
 word:Int
 known:Bool
 deriving DecidableEq
abbrev zP.cells (a:zP):List Value:=[u64 a.word,.bool a.known]
abbrev W5:List CK:=[.i .u64,.b]
abbrev qp:jB zP:=⟨2,zP.cells,fun | [.int .u64 x0,.bool x1]=>some ⟨x0,x1⟩ | _=>none,by decide,fun _=>rfl,by simp [one],fun cs a h=>by split at h <;> cases h;rfl⟩
instance {a:zP}:e9 qp a [u64 a.word,.bool a.known]:=⟨rfl⟩
instance {x0:Int}{x1:Bool}:fy qp [u64 x0,.bool x1] ⟨x0,x1⟩:=⟨rfl⟩
theorem zP.eqb (a b:zP):(decide (a.word=b.word) && (a.known == b.known))=decide (a=b):=by
 obtain⟨x0,x1⟩:=a
 obtain⟨y0,y1⟩:=b
 rw [Bool.eq_iff_iff]
 simp [and_assoc]
structure Ap where
 c:im
 f:im
abbrev Ap.cells (a:Ap):List Value:=[.slice a.c.a a.c.n a.c.c,.slice a.f.a a.f.n a.f.c]
abbrev WI:List NK:=[.s J8,.s [.i .i64]]
abbrev PC:jB Ap:=⟨2,Ap.cells,fun | [.slice x0a x0n x0c,.slice x1a x1n x1c]=>some ⟨⟨x0a,x0n,x0c⟩,⟨x1a,x1n,x1c⟩⟩ | _=>none,by decide,fun _=>rfl,by simp [one],fun cs a h=>by split at h <;> cases h;rfl⟩
instance {a:Ap}:e9 PC a [.slice a.c.a a.c.n a.c.c,.slice a.f.a a.f.n a.f.c]:=⟨rfl⟩
instance {x0a:Option Addr}{x0n x0c:Nat}{x1a:Option Addr}{x1n x1c:Nat}:fy PC [.slice x0a x0n x0c,.slice x1a x1n x1c] ⟨⟨x0a,x0n,x0c⟩,⟨x1a,x1n,x1c⟩⟩:=⟨rfl⟩
def Ap.Q (w:bg)(a:Ap):Prop:=(∃ys,E8 w a.c.v bd ys)∧(∃ys,E8 w a.f.v cd ys)
structure m6 where
 kind:Int
 place:Int
 v:Int
 cs:im
abbrev m6.cells (a:m6):List Value:=[i64 a.kind,i64 a.place,u64 a.v,.slice a.cs.a a.cs.n a.cs.c]
abbrev UU:List NK:=[.p (.i .i64),.p (.i .i64),.p (.i .u64),.s J8]
abbrev Hy:jB m6:=⟨4,m6.cells,fun | [.int .i64 x0,.int .i64 x1,.int .u64 x2,.slice x3a x3n x3c]=>some ⟨x0,x1,x2,⟨x3a,x3n,x3c⟩⟩ | _=>none,by decide,fun _=>rfl,by simp [one],fun cs a h=>by split at h <;> cases h;rfl⟩
instance {a:m6}:e9 Hy a [i64 a.kind,i64 a.place,u64 a.v,.slice a.cs.a a.cs.n a.cs.c]:=⟨rfl⟩
instance {x0:Int}{x1:Int}{x2:Int}{x3a:Option Addr}{x3n x3c:Nat}:fy Hy [i64 x0,i64 x1,u64 x2,.slice x3a x3n x3c] ⟨x0,x1,x2,⟨x3a,x3n,x3c⟩⟩:=⟨rfl⟩
def m6.Q (w:bg)(a:m6):Prop:=(∃ys,E8 w a.cs.v bd ys)
structure mK where
 take:Bool
 c:aw
 l:im
abbrev mK.cells (a:mK):List Value:=[.bool a.take,i64 a.c.place,u64 a.c.word,.slice a.l.a a.l.n a.l.c]
abbrev Vo:List NK:=[.p .b,.p (.i .i64),.p (.i .u64),.s J8]
abbrev Gy:jB mK:=⟨4,mK.cells,fun | [.bool x0,.int .i64 x1,.int .u64 x2,.slice x3a x3n x3c]=>some ⟨x0,⟨x1,x2⟩,⟨x3a,x3n,x3c⟩⟩ | _=>none,by decide,fun _=>rfl,by simp [one],fun cs a h=>by split at h <;> cases h;rfl⟩
instance {a:mK}:e9 Gy a [.bool a.take,i64 a.c.place,u64 a.c.word,.slice a.l.a a.l.n a.l.c]:=⟨rfl⟩
instance {x0:Bool}{x1:Int}{x2:Int}{x3a:Option Addr}{x3n x3c:Nat}:fy Gy [.bool x0,i64 x1,u64 x2,.slice x3a x3n x3c] ⟨x0,⟨x1,x2⟩,⟨x3a,x3n,x3c⟩⟩:=⟨rfl⟩
def mK.Q (w:bg)(a:mK):Prop:=(∃ys,E8 w a.l.v bd ys)
structure FB where
 me:Int
 spins:Int
 stamp:Int
 seen:im
 cs:im
 others:im
 start:Int
 stripes:Int
 wide:Int
abbrev FB.cells (a:FB):List Value:=[i64 a.me,i64 a.spins,i64 a.stamp,.slice a.seen.a a.seen.n a.seen.c,.slice a.cs.a a.cs.n a.cs.c,.slice a.others.a a.others.n a.others.c,u64 a.start,i64 a.stripes,i64 a.wide]
abbrev W2:List NK:=[.p (.i .i64),.p (.i .i64),.p (.i .i64),.s UY,.s J8,.s WV,.p (.i .u64),.p (.i .i64),.p (.i .i64)]
abbrev SP:jB FB:=⟨9,FB.cells,fun | [.int .i64 x0,.int .i64 x1,.int .i64 x2,.slice x3a x3n x3c,.slice x4a x4n x4c,.slice x5a x5n x5c,.int .u64 x6,.int .i64 x7,.int .i64 x8]=>some ⟨x0,x1,x2,⟨x3a,x3n,x3c⟩,⟨x4a,x4n,x4c⟩,⟨x5a,x5n,x5c⟩,x6,x7,x8⟩ | _=>none,by decide,fun _=>rfl,by simp [one],fun cs a h=>by split at h <;> cases h;rfl⟩
instance {a:FB}:e9 SP a [i64 a.me,i64 a.spins,i64 a.stamp,.slice a.seen.a a.seen.n a.seen.c,.slice a.cs.a a.cs.n a.cs.c,.slice a.others.a a.others.n a.others.c,u64 a.start,i64 a.stripes,i64 a.wide]:=⟨rfl⟩
instance {x0:Int}{x1:Int}{x2:Int}{x3a:Option Addr}{x3n x3c:Nat}{x4a:Option Addr}{x4n x4c:Nat}{x5a:Option Addr}{x5n x5c:Nat}{x6:Int}{x7:Int}{x8:Int}:fy SP [i64 x0,i64 x1,i64 x2,.slice x3a x3n x3c,.slice x4a x4n x4c,.slice x5a x5n x5c,u64 x6,i64 x7,i64 x8] ⟨x0,x1,x2,⟨x3a,x3n,x3c⟩,⟨x4a,x4n,x4c⟩,⟨x5a,x5n,x5c⟩,x6,x7,x8⟩:=⟨rfl⟩
def FB.Q (w:bg)(a:FB):Prop:=(∃ys,E8 w a.seen.v fM ys)∧(∃ys,E8 w a.cs.v bd ys)∧(∃ys,E8 w a.others.v U9 ys)
structure Hq where
 mine:Bool
 again:Bool
 deriving DecidableEq
abbrev Hq.cells (a:Hq):List Value:=[.bool a.mine,.bool a.again]
abbrev W0:List CK:=[.b,.b]
abbrev SV:jB Hq:=⟨2,Hq.cells,fun | [.bool x0,.bool x1]=>some ⟨x0,x1⟩ | _=>none,by decide,fun _=>rfl,by simp [one],fun cs a h=>by split at h <;> cases h;rfl⟩
instance {a:Hq}:e9 SV a [.bool a.mine,.bool a.again]:=⟨rfl⟩
instance {x0:Bool}{x1:Bool}:fy SV [.bool x0,.bool x1] ⟨x0,x1⟩:=⟨rfl⟩
theorem Hq.eqb (a b:Hq):((a.mine == b.mine) && (a.again == b.again))=decide (a=b):=by
 obtain⟨x0,x1⟩:=a
 obtain⟨y0,y1⟩:=b
 rw [Bool.eq_iff_iff]
 simp [and_assoc]
structure eu where
 what:Int
 root:Int
 k:Int
 x:Int
 deriving DecidableEq
abbrev eu.cells (a:eu):List Value:=[i64 a.what,i64 a.root,u64 a.k,u64 a.x]
abbrev FV:List CK:=[.i .i64,.i .i64,.i .u64,.i .u64]
abbrev t7:jB eu:=⟨4,eu.cells,fun | [.int .i64 x0,.int .i64 x1,.int .u64 x2,.int .u64 x3]=>some ⟨x0,x1,x2,x3⟩ | _=>none,by decide,fun _=>rfl,by simp [one],fun cs a h=>by split at h <;> cases h;rfl⟩
instance {a:eu}:e9 t7 a [i64 a.what,i64 a.root,u64 a.k,u64 a.x]:=⟨rfl⟩
instance {x0:Int}{x1:Int}{x2:Int}{x3:Int}:fy t7 [i64 x0,i64 x1,u64 x2,u64 x3] ⟨x0,x1,x2,x3⟩:=⟨rfl⟩
theorem eu.eqb (a b:eu):(decide (a.what=b.what) && (decide (a.root=b.root) && (decide (a.k=b.k) && decide (a.x=b.x))))=decide (a=b):=by
 obtain⟨x0,x1,x2,x3⟩:=a
 obtain⟨y0,y1,y2,y3⟩:=b
 rw [Bool.eq_iff_iff]
 simp [and_assoc]
theorem dt {k:Nat}(h:k<4611686018427387904):IntKind.wrap .i64 ((k:Int)+1)=((k+1:Nat):Int):=by
 rw [Go.IntWalk.i64_in _ (by omega)];rfl
theorem ik {n:Int}(h:-9223372036854775808≤n)(h':n≤9223372036854775807):IntKind.wrap .i64 n=n:=Go.IntWalk.i64_in _ ⟨h,h'⟩
theorem RH {n:Int}(h:0≤n)(h':n≤18446744073709551615):IntKind.wrap .u64 n=n:=Go.IntWalk.u64_in _ ⟨h,h'⟩
def WK (k:IntKind)(n:Int):Prop:=(Lit.int k n).wf=true
theorem U4 {n:Int}(h:WK .u8 n):0≤n∧n≤255:=by simp [WK,Lit.wf,IntKind.min,IntKind.max,IntKind.signed,IntKind.bits] at h;omega
theorem JW {n:Int}(h:WK .u64 n):0≤n∧n≤18446744073709551615:=by simp [WK,Lit.wf,IntKind.min,IntKind.max,IntKind.signed,IntKind.bits] at h;omega
def held (n lo hi:Int):Int:=if n<lo then lo else if n > hi then hi else n
theorem eQ {n lo hi:Int}(h:lo≤hi):lo≤held n lo hi∧held n lo hi≤hi:=by unfold held;split <;> (try split) <;> omega
def iw (b:Nat)(xs:List Int):ax:=jX fun v=>bu (fS (av v [v])) (bu (own b [v]) (sl de v xs))
theorem fR {w0:bg}{M:List ax}{F:World→Prop}{b:Nat}{xs:List Int}:G w0 (ob iw b xs::M) F=∀v,av v [v]→G w0 (own b [v]::sl de v xs::M) F:=by
 rw [dO,iw]
 simp only [lT,dP,eS]
def jP {α:Type}(E:jB α)(b:Nat)(xs:List α):ax:=jX fun v=>bu (fS (av v [v])) (bu (own b [v]) (sl E v xs))
theorem fe {α:Type}{E:jB α}{w0:bg}{M:List ax}{F:World→Prop}{b:Nat}{xs:List α}:G w0 (ob (jP E) b xs::M) F=∀v,av v [v]→G w0 (own b [v]::sl E v xs::M) F:=by
 rw [dO,jP]
 simp only [lT,dP,eS]
class cx (As L:List ax)(M:outParam (List ax)):Prop where
 eq:dh L=dh (As++M)
instance cx.nil {L:List ax}:cx [] L L:=⟨rfl⟩
instance cx.cons {A:ax}{As L M1 M:List ax}[p:Np L A M1][q:cx As M1 M]:cx (A::As) L M:=⟨by
 rw [p.eq]
 show bu A (dh M1)=bu A (dh (As++M))
 rw [q.eq]⟩
theorem G.pickAll {As L M:List ax}{w0:bg}{F:World→Prop}[p:cx As L M](h:G w0 (As++M) F):G w0 L F:=by
 rw [da p.eq];exact h
theorem cW {α:Type}{xs:List α}{k:Nat}(h:k<xs.length):eA xs k xs[k]:=⟨List.getElem?_eq_getElem h⟩
theorem eA.lt {α:Type}{xs:List α}{k:Nat}{x:α}(h:eA xs k x):k<xs.length:=by
 rcases Nat.lt_or_ge k xs.length with h1 | h1
 ·exact h1
 ·have:=h.eq;simp [List.getElem?_eq_none h1] at this
end Go.Proofs.YtoealglbimbbmaaGreatDoor.S
