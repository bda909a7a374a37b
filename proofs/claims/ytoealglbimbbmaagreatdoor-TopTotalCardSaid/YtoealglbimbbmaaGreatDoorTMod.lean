import Derived.Test.YtoealglbimbbmaaGreatDoorTChk
import Derived.Shelf.Sort.Plain
import Derived.Shelf.Slices.In.SortNone
import Derived.Shelf.Slices.CompactI
import Derived.Test.YtoealglbimbbmaaGreatDoorRDr
import Derived.Test.YtoealglbimbbmaaGreatDoorExtend
import Derived.Test.YtoealglbimbbmaaGreatDoorTInt
set_option linter.defProp false
set_option linter.unusedVariables false
set_option linter.unusedSimpArgs false
namespace Go.Proofs
open Go.Shelf
def YtoealglbimbbmaaGreatDoor.c3 : Go.Shelf.Ren:=⟨λ|189=>204|125=>236|257=>235|128=>282|129=>283|294=>273|295=>274|296=>275|297=>276|298=>277|299=>278|216=>279|300=>280|301=>281|328=>339|329=>340|330=>341|331=>342|332=>343|215=>344|343=>369|n=>n, λ|28=>88|3=>3|46=>93|0=>0|51=>373|53=>22|4=>4|183=>367|182=>366|131=>331|5=>5|9=>9|218=>407|222=>410|228=>429|229=>386|n=>n, λ|n=>n⟩
def YtoealglbimbbmaaGreatDoor.dw : Go.Proofs.Lays.n189 Tryz.prog YtoealglbimbbmaaGreatDoor.c3:={
  mixed:=by kernel_rfl
  f125:=Tryz.func236.trans (congrArg some (by kernel_rfl))
  f128:=Tryz.func282.trans (congrArg some (by kernel_rfl))
  f129:=Tryz.func283.trans (congrArg some (by kernel_rfl))
  f189:=Tryz.func204.trans (congrArg some (by kernel_rfl))
  f215:=Tryz.func344.trans (congrArg some (by kernel_rfl))
  f216:=Tryz.func279.trans (congrArg some (by kernel_rfl))
  f257:=Tryz.func235.trans (congrArg some (by kernel_rfl))
  f294:=Tryz.func273.trans (congrArg some (by kernel_rfl))
  f295:=Tryz.func274.trans (congrArg some (by kernel_rfl))
  f296:=Tryz.func275.trans (congrArg some (by kernel_rfl))
  f297:=Tryz.func276.trans (congrArg some (by kernel_rfl))
  f298:=Tryz.func277.trans (congrArg some (by kernel_rfl))
  f299:=Tryz.func278.trans (congrArg some (by kernel_rfl))
  f300:=Tryz.func280.trans (congrArg some (by kernel_rfl))
  f301:=Tryz.func281.trans (congrArg some (by kernel_rfl))
  f328:=Tryz.func339.trans (congrArg some (by kernel_rfl))
  f329:=Tryz.func340.trans (congrArg some (by kernel_rfl))
  f330:=Tryz.func341.trans (congrArg some (by kernel_rfl))
  f331:=Tryz.func342.trans (congrArg some (by kernel_rfl))
  f332:=Tryz.func343.trans (congrArg some (by kernel_rfl))
  f343:=Tryz.func369.trans (congrArg some (by kernel_rfl))
  t0:=Tryz.underlying0
  a0:=Tryz.isAgg0
  z0:=Tryz.sizeOf0
  v0:=Tryz.zeroValue0
  t3:=Tryz.underlying3
  a3:=Tryz.isAgg3
  z3:=Tryz.sizeOf3
  v3:=Tryz.zeroValue3
  t4:=Tryz.underlying4
  a4:=Tryz.isAgg4
  z4:=Tryz.sizeOf4
  v4:=Tryz.zeroValue4
  t5:=Tryz.underlying5
  a5:=Tryz.isAgg5
  z5:=Tryz.sizeOf5
  v5:=Tryz.zeroValue5
  t9:=Tryz.underlying9
  a9:=Tryz.isAgg9
  z9:=Tryz.sizeOf9
  v9:=Tryz.zeroValue9
  t28:=Tryz.underlying88
  a28:=Tryz.isAgg88
  z28:=Tryz.sizeOf88
  v28:=Tryz.zeroValue88
  t46:=Tryz.underlying93
  a46:=Tryz.isAgg93
  z46:=Tryz.sizeOf93
  v46:=Tryz.zeroValue93
  t51:=Tryz.underlying373
  a51:=Tryz.isAgg373
  z51:=Tryz.sizeOf373
  v51:=Tryz.zeroValue373
  t53:=Tryz.underlying22
  a53:=Tryz.isAgg22
  z53:=Tryz.sizeOf22
  v53:=Tryz.zeroValue22
  t131:=Tryz.underlying331
  a131:=Tryz.isAgg331
  z131:=Tryz.sizeOf331
  v131:=Tryz.zeroValue331
  t182:=Tryz.underlying366
  a182:=Tryz.isAgg366
  z182:=Tryz.sizeOf366
  v182:=Tryz.zeroValue366
  t183:=Tryz.underlying367
  a183:=Tryz.isAgg367
  z183:=Tryz.sizeOf367
  v183:=Tryz.zeroValue367
  t218:=Tryz.underlying407
  a218:=Tryz.isAgg407
  z218:=Tryz.sizeOf407
  v218:=Tryz.zeroValue407
  t222:=Tryz.underlying410
  a222:=Tryz.isAgg410
  z222:=Tryz.sizeOf410
  v222:=Tryz.zeroValue410
  t228:=Tryz.underlying429
  a228:=Tryz.isAgg429
  z228:=Tryz.sizeOf429
  v228:=Tryz.zeroValue429
  t229:=Tryz.underlying386
  a229:=Tryz.isAgg386
  z229:=Tryz.sizeOf386
  v229:=Tryz.zeroValue386 }
def YtoealglbimbbmaaGreatDoor.cS : Go.Shelf.Ren:=⟨λ|20=>205|n=>n, λ|22=>88|3=>3|4=>4|0=>0|n=>n, λ|n=>n⟩
def YtoealglbimbbmaaGreatDoor.de : Go.Proofs.Lays2.n20 Tryz.prog YtoealglbimbbmaaGreatDoor.cS:={
  mixed:=by kernel_rfl
  f20:=Tryz.func205.trans (congrArg some (by kernel_rfl))
  t0:=Tryz.underlying0
  a0:=Tryz.isAgg0
  z0:=Tryz.sizeOf0
  v0:=Tryz.zeroValue0
  t3:=Tryz.underlying3
  a3:=Tryz.isAgg3
  z3:=Tryz.sizeOf3
  v3:=Tryz.zeroValue3
  t4:=Tryz.underlying4
  a4:=Tryz.isAgg4
  z4:=Tryz.sizeOf4
  v4:=Tryz.zeroValue4
  t22:=Tryz.underlying88
  a22:=Tryz.isAgg88
  z22:=Tryz.sizeOf88
  v22:=Tryz.zeroValue88
  i3:=by kernel_rfl }
end Go.Proofs
namespace Go.Proofs.YtoealglbimbbmaaGreatDoor.S
open Go Go.Proofs Go.Sort
section
variable {w0:bz}{L M:List bg}{K:KV}{C:bg->List bg}{w:World}
def St.ahead (H:St w0 L w):∀n,St w0 L (Sort.ahead w n)
 |0=>H
 |n+1=>by rw[<-ahead_drew];exact(St.ahead H n).drew
def St.grow (H:St w0 L w)(os:Array Obj):St w0 L (Sort.grow w os):=by
 obtain⟨h,l,a⟩:=H
 have e:∀k,k<w.heap.size->(Sort.grow w os).heap[k]? = w.heap[k]?:=λk d=>heap_grow_old _ _ d
 have c:w.heap.size<=(Sort.grow w os).heap.size:=by grind
 refine⟨h,l,⟨a.step.os,a.step.tape,a.step.output,za5 a.step.size c,λk d m=>?_⟩,λb g f=>?_,λb o f=>?_,za5 a.min c⟩
 ·rw[e k (zbs d a.step.size)];exact a.step.block k d m
 ·obtain⟨i,j,n⟩:=a.cell b g f
  grind[Ci,mem,opn]
 ·obtain⟨i,j⟩:=a.b4 b o f
  grind
def Oq {w:World}{b:Nat}{cs:List Value}(d:Array Int)(h:mem w b=some cs):putRow (Value.int .i64) w b 0 d=put w b (putCells (Value.int .i64) 0 d cs.toArray).toList:=by
 unfold putRow mapBlock put
 congr 1
 apply zbN
 intro j
 simp only[zaX]
 split
 ·rename_i e
  subst e
  unfold mem at h
  cases a:w.heap[b]? with
  |none=>rfl
  |some o =>
   rw[a]at h
   cases o with
   |cells c T z =>
    simp only[zay]at h
    subst h
    simp[onCells]
   |_=>simp at h
 ·rfl
def GQ {zs ts:List Int}{rest:List Value}(b:ts.length=zs.length):(putCells (Value.int .i64) 0 ts.toArray (zs.flatMap bq.enc++rest).toArray).toList=ts.flatMap bq.enc++rest:=by
 have e:∀a:List Int,a.flatMap bq.enc=a.map (Value.int .i64):=λa=>by
  induction a with
  |nil=>rfl
  |cons x a ih=>simp[ih]
 rw[e,e]
 apply zbk
 intro j
 simp only[putCells,Array.getElem?_toList,Array.getElem?_mapIdx,zbC,zag,true_and,zaS,zch,zcc]
 rcases zaE j ts.length with hj|hj
 ·rw[zbm (by simpa using(by omega:j<zs.length)),zbm (by simpa using hj)]
  simp[hj,show j<zs.length by omega]
 all_goals grind
def Ds {v:Value}{zs:List Int}[i:uS L v bq zs C](F:zs.length<=1000000)(hK:G w0 (C (sl bq v (zs.mergeSort λx y=>decide (x<=y)))) (K (.tuple #[]))):G w0 L (ac 204 [v] K):=by
 have known:∃fn,Tryz.prog.funcs[204]? = some fn/\fn.body.isNone=false/\(fn.name == "runtime.NumGoroutine")=false:=⟨_,Tryz.func204,by kernel_rfl,by kernel_rfl⟩
 obtain⟨M,s,q⟩:=vF (w0:=w0) i.dC
 intro w H
 have l:=(s w).1 H
 rcases l.bH with⟨rfl,rfl,h⟩|⟨c,cap,a,rfl,B,r,h⟩
 ·refine⟨known,(Any.slices_Sort_int_none YtoealglbimbbmaaGreatDoor.dw none 0 w).mono ?_⟩
  rintro e w' ⟨rfl,rfl⟩
  exact hK _ ((q _ _).2 (by simpa using l))
 ·have k:=h.bo
  have t:Go.Sort.Holds (Value.int .i64) w c 0 zs.toArray:=λj hj=>by
   have d:j<zs.length:=by simpa using hj
   refine⟨?_,?_⟩
   ·rw[ry k.2.1]
    have:=Bk bq a zs j zs[j] (dg d)
    have p:(((zs.flatMap bq.enc++a).drop (j*1)).take 1)[0]? = some (i64 zs[j]):=by rw[show(List.drop (j*1) (zs.flatMap bq.enc++a)).take 1=[i64 zs[j]]from this];rfl
    rw[zbh]at p
    simpa[d]using p
   ·have f:=k.2.2
    unfold opn at f
    unfold World.frozen?
    split at f
    ·rename_i D T z u
     simp[u]at f ⊢
     simp[f]
    ·cases f
  refine⟨known,(Any.slices_Sort_int YtoealglbimbbmaaGreatDoor.dw c 0 cap zs w t (Ci k.2.1) zo).mono ?_⟩
  rintro e w' ⟨rfl,n,os,rfl⟩
  have b:(zs.mergeSort λx y=>decide (x<=y)).length=zs.length:=zcx _
  have o:=h.ahead n
  have g:=o.bo.2.1
  rw[Oq _ g,GQ b]
  have A:=(o.ce (cs':=(zs.mergeSort λx y=>decide (x<=y)).flatMap bq.enc++a)).grow os
  have m:=A.cF (E:=bq) (cap:=cap) zo (by rw[b];exact r)
  rw[b]at m
  exact hK _ ((q _ _).2 m)
def YE {c:Nat}{zs:List Int}{rest:List Value}(hm:mem w c=some (zs.flatMap bq.enc++rest))(ho:opn w c=true):Go.Sort.Holds (Value.int .i64) w c 0 zs.toArray:=λj hj=>by
 have hj':j<zs.length:=by simpa using hj
 refine⟨?_,?_⟩
 ·rw[ry hm]
  have:=Bk bq rest zs j zs[j] (dg hj')
  have h0:(((zs.flatMap bq.enc++rest).drop (j*1)).take 1)[0]? = some (i64 zs[j]):=by rw[show(List.drop (j*1) (zs.flatMap bq.enc++rest)).take 1=[i64 zs[j]]from this];rfl
  rw[zbh]at h0
  simpa[hj']using h0
 ·unfold opn at ho
  unfold World.frozen?
  split at ho
  ·rename_i cc T z hz
   simp[hz]at ho ⊢
   simp[ho]
  ·cases ho
def X8 (zs:List Int):(Lib.compact zs).length<=zs.length:=by
 unfold Lib.compact Lib.compactUpTo
 rw[zaq]
 grind
def Ah {v:Value}{zs:List Int}[i:uS L v bq zs C](r:zs.length<=1000000)(hK:∀u,ax u [u]->G w0 (C (sl bq u (Lib.compact zs))) (K u)):G w0 L (ac 205 [v] K):=by
 have known:∃fn,Tryz.prog.funcs[205]? = some fn/\fn.body.isNone=false/\(fn.name == "runtime.NumGoroutine")=false:=⟨_,Tryz.func205,by kernel_rfl,by kernel_rfl⟩
 obtain⟨M,o,j⟩:=vF (w0:=w0) i.dC
 intro w H
 have f:=(o w).1 H
 rcases f.bH with⟨rfl,rfl,d⟩|⟨c,cap,a,rfl,l,k,d⟩
 ·refine⟨known,(Any.slices_Compact_int_empty YtoealglbimbbmaaGreatDoor.de none 0 w).mono ?_⟩
  rintro e w' ⟨rfl,rfl⟩
  exact hK _ bj _ ((j _ _).2 (by simpa[Lib.compact,Lib.compactUpTo]using f))
 ·have h:=d.bo
  refine⟨known,(Any.slices_Compact_int YtoealglbimbbmaaGreatDoor.de c 0 cap zs w (YE h.2.1 h.2.2) zo l).mono ?_⟩
  rintro e w' ⟨rfl,n,rfl⟩
  have m:=X8 zs
  have g:=d.ahead n
  have b:=g.bo.2.1
  rw[Oq _ b,GQ (by simp;omega),zbg,zaG]
  have q:=g.ce (cs':=(Lib.compact zs).flatMap bq.enc++((List.replicate (zs.length-(Lib.compact zs).length) (0:Int)).flatMap bq.enc++a))
  have p:=q.cF (E:=bq) (cap:=cap) zo (by
   rw[LE,oo,k,zbD]
   show(zs.length-(Lib.compact zs).length)*1+(cap-zs.length)*1=(cap-(Lib.compact zs).length)*1
   omega)
  exact hK _ bj _ ((j _ _).2 p)
end
end Go.Proofs.YtoealglbimbbmaaGreatDoor.S
namespace Go.Proofs.YtoealglbimbbmaaGreatDoor.S
open Go Go.Proofs
def jT (cs:List ay)(n wide:Int):List Int:=(cs.map λc=>ie c.J n wide).filter λi=>decide (0<=i)
def Ov {cs:List ay}{n wide:Int}{k:Nat}(a:k<cs.length):jT (cs.take (k+1)) n wide=if 0<=ie cs[k].J n wide then jT (cs.take k) n wide++[ie cs[k].J n wide]else jT (cs.take k) n wide:=by
 unfold jT
 rw[zaV,dg a,zal,zcJ]
 split
 ·rename_i h;simp[h]
 ·rename_i h;simp[h]
def Tz {cs:List ay}{n wide:Int}:(jT cs n wide).length<=cs.length:=by
 unfold jT
 exact za5 (zb0 _ _) zs
section
variable {w0:bz}{L M:List bg}{K:KV}{F:World->Prop}{C:bg->List bg}{b:Nat}{cs:List ay}
def L1 {v:Value}{n wide:Int}[r:Rd w0 L v cg 2 cs](o:cs.length<=100000)(hK:∀u,ax u [u]->G w0 (sl bq u (Lib.compact ((jT cs n wide).mergeSort λx y=>decide (x<=y)))::L) (K u)):G w0 L (ac 175 [v,i64 n,i64 wide] K):=by
 refine Lc ?_
 unfold Av
 refine ar ?_
 refine G.a3 bq ?_
 refine G.bN (σ:=Value×Nat) (λz=>z.1) (λz=>i64 z.2) (λz=>sl bq z.1 (jT (cs.take z.2) n wide)::L) (λz=>z.2<=cs.length/\ax z.1 [z.1]) (λz=>cs.length-z.2) (.slice none 0 0,0) rfl rfl rfl ⟨zs,bj⟩ ?_
 rintro⟨u,k⟩ ⟨l,g⟩ J hJ
 simp only at l g hJ ⊢
 have f:=Tz (cs:=cs.take k) (n:=n) (wide:=wide)
 have i:(cs.take k).length<=cs.length:=by rw[zaC];omega
 refine ar ?_
 refine G.cond (λh=>?_) (λh=>?_)
 ·have a:k<cs.length:=by simpa using h
  have e:=dm a
  have t:=Ov (n:=n) (wide:=wide) a
  refine ar ?_
  refine G.new λp=>ar ?_
  refine M8 (ar ?_)
  refine G.dN (λy:Value=>y) (λy=>sl bq y (jT (cs.take (k+1)) n wide)::L) (λy=>ax y [y]) ?_ (λm b=>?_)
  ·intro y c
   refine ar ?_
   rw[fm zo]
   exact hJ (y,k+1) ⟨a,c⟩ (by simp;omega)
  ·refine G.cond (λd=>?_) (λd=>?_)
   ·rw[zp (by simpa using d)]at t
    refine G.bM (E:=bq) rfl rfl zd zo (by simp only[maxLen];omega) λy c=>?_
    have h:=b y c
    rw[t]at h
    exact h.sub
   ·rw[zn (by simpa using d)]at t
    have h:=b u g
    rw[t]at h
    exact h.sub
 ·have j:cs.take k=cs:=zat (by simpa using h)
  rw[j]at f ⊢
  refine Ds (zs:=jT cs n wide) zo (ar ?_)
  refine Ah (zs:=(jT cs n wide).mergeSort λx y=>decide (x<=y)) (by rw[zcx];omega) λy c=>?_
  exact hK y c
end
end Go.Proofs.YtoealglbimbbmaaGreatDoor.S
namespace Go.Proofs.YtoealglbimbbmaaGreatDoor.S
open Go Go.Proofs
def j4 (f:Nat->Bool)(m:Nat):List Int:=((List.range m).filter f).map λ(j:Nat)=>(j:Int)
def G0 {f:Nat->Bool}{m:Nat}:(j4 f m).Pairwise (·<·):=by
 unfold j4
 rw[List.pairwise_map]
 exact(zcA _ zcr).imp (λh=>by omega)
def I3 {f:Nat->Bool}{m:Nat}{x:Int}:x∈j4 f m↔∃j,j<m/\f j=true/\(j:Int)=x:=by
 simp[j4,and_assoc]
def V7 {a n wide:Int}(h:0<=ie a n wide):∃s:Nat,ie a n wide=(s:Int)/\s<16:=by
 have c:=jp (n:=n) (show(1:Int)<=16 by omega)
 have b:ie a n wide<16:=by
  unfold ie at h ⊢
  split
  ·omega
  ·have:=zbt (IntKind.wrap .i64 (a.tdiv (held wide 1 16))) (show 0<held n 1 16 by omega)
   omega
 exact⟨(ie a n wide).toNat,zo,zo⟩
def gh (cs:List ay)(n wide:Int)(j:Nat):Bool:=(jT cs n wide).contains (j:Int)
def QB {cs:List ay}{n wide:Int}:Lib.compact ((jT cs n wide).mergeSort λx y=>decide (x<=y))=j4 (gh cs n wide) 16:=by
 refine UE G0 λx=>?_
 rw[I3]
 constructor
 ·rintro⟨j,_,h,rfl⟩
  simpa[gh]using h
 ·intro h
  have a:=h
  simp only[jT,zaD,zau,decide_eq_true_eq]at a
  obtain⟨⟨c,_,rfl⟩,h0⟩:=a
  obtain⟨s,e,b⟩:=V7 h0
  rw[e]at h ⊢
  exact⟨s,b,by simpa[gh]using h,rfl⟩
section
variable {w0:bz}{L M:List bg}{K:KV}{F:World->Prop}{C:bg->List bg}{b:Nat}{cs:List ay}
set_option maxHeartbeats 1000000 in
end
structure ct where
 Y:qM
 me:Int
 I:Int
 ab:List jz
 cells:List ay
 F:List Int
 was:List ey
 B:Int
 K:Nat
 ac:ey
 aj:Int
 ao:Bool
 O:Int
 aY:Int
 aV:Int
def tU:List Int->Int->Option Nat
 | [],_=>none
 |s::l,a=>if s=a then some 0 else(tU l a).map (·+1)
def A1 {a:Int}:∀{l:List Int}{k:Nat},tU l a=some k->l[k]? = some a
 | [],k,h=>by cases h
 |s::l,k,h=>by
  unfold tU at h
  split at h
  ·rename_i e;cases h;simp[e]
  ·cases hi:tU l a with
   |none=>rw[hi]at h;cases h
   |some j=>rw[hi]at h;cases h;simpa using A1 hi
theorem F1 {a:Int}:∀{l:List Int},tU l a=none↔a∉l
 | []=>by simp[tU]
 |s::l=>by
  unfold tU
  split
  ·rename_i e;simp[e]
  ·rename_i e
   have:=F1 (a:=a) (l:=l)
   simp only[Option.map_eq_none_iff,this,zaa,not_or]
   exact⟨λh=>⟨λg=>e g.symm,h⟩,λh=>h.2⟩
def age {a:Int}{l:List Int}{k:Nat}(h:tU l a=some k):k<l.length:=(Nm.1 (A1 h)).1
def V2 {a:Int}{l:List Int}{k:Nat}(f:l.Pairwise (·<·))(h:l[k]? = some a):tU l a=some k:=by
 cases d:tU l a with
 |none=>exact absurd (Ok h) (F1.1 d)
 |some j =>
  have e:=A1 d
  obtain⟨b,i⟩:=Nm.1 h
  obtain⟨c,m⟩:=Nm.1 e
  rcases Nat.lt_trichotomy j k with g|g|g
  ·have:=zaT.1 f j k c b g;omega
  ·rw[g]
  ·have:=zaT.1 f k j b c g;omega
def kA (x:ct):ct:={ x with B:=if x.was.length=x.F.length then 2 else 0 }
def jC (x:ct):ct:=if x.K=x.was.length then { x with Y:=x.Y.bn x.O x.aV x.aY }else x
def jM (x:ct)(e er b:Int):ct:=jC { x with O:=e,aV:=er,aY:=b,K:=0,B:=7 }
def kM (x:ct)(l:ey):ct:=if(x.Y.waits l.ar).2=true then { x with Y:=(x.Y.waits l.ar).1 }else jM { x with Y:=(x.Y.waits l.ar).1 } 5 0 l.ar
def kf (x:ct):ct:=if x.K=x.F.length then { x with Y:=x.Y.bn 2 0 (-1) }else x
def jI (x:ct):ct:=if x.K=x.cells.length then kf { x with K:=0,B:=6 }else x
def mo (x:ct):ct:=jI { x with ao:=true,K:=0,B:=5 }
def aec (x:ct)(s:Int):Option Int:=(tU x.F s).map λi=>(x.was.getD i aa).D
def proveN:Nat->ct->ct
 |0,x=>mo x
 |n+1,x=>match aec x (x.ab.getD x.K ⟨0,0⟩).N with
  |none=>x
  |some v=>if v=(x.ab.getD x.K ⟨0,0⟩).D then proveN n { x with K:=x.K+1 }else jM x 5 0 (-1)
def pH (x:ct):ct:=proveN (x.ab.length-x.K) { x with B:=4 }
def mc (x:ct)(l:ey):ct :=
 if l.held=true then kM x l else if l.D=(x.ab.getD x.K ⟨0,0⟩).D then pH { x with K:=x.K+1 }else jM x 5 0 (-1)
def oN (x:ct)(a:ii):ct :=
 if x.B=0 then(if a.ac.held=true then kM x a.ac else { x with ac:=a.ac,B:=1 })
 else if a.done=true then kA { x with was:=x.was++[x.ac] }else { x with B:=0 }
def mf (x:ct)(a:ii):ct :=
 if x.B=2 then(if 4611686018427387903<=a.word then jM x 4 7 (-1)else { x with aj:=a.word,B:=3 })
 else if a.done=false then { x with B:=2 }else if x.aj=x.I then mo x else pH x
def bk (x:ct)(a:ii):ct :=
 if(x.Y.aZ a.aV).O=0 then
  (if x.B=0\/x.B=1 then oN x a
   else if x.B=2\/x.B=3 then mf x a
   else if x.B=4 then mc x a.ac
   else if x.B=5 then jI { x with K:=x.K+1 }
   else if x.B=6 then kf { x with K:=x.K+1 }
   else jC { x with K:=x.K+1 })
 else { x with Y:=x.Y.aZ a.aV }
def ov (me sp stamp:Int)(seen:List jz)(cells:List ay)(stripes:List Int):ct :=
 kA ⟨rj me sp,me,stamp,seen,cells,stripes,[],0,0,aa,0,false,0,0,0⟩
def au (x:ct):vV×Bool :=
 if x.Y.O=0 then
  ((if x.B=0 then⟨3,x.F.getD x.was.length 0,0,0,aa,aa⟩
   else if x.B=1 then⟨4,x.F.getD x.was.length 0,0,0,x.ac,⟨x.ac.D,true,x.me⟩⟩
   else if x.B=2 then⟨6,0,0,0,aa,aa⟩
   else if x.B=3 then⟨7,0,x.aj,IntKind.wrap .u64 (x.aj+1),aa,aa⟩
   else if x.B=4 then⟨3,(x.ab.getD x.K ⟨0,0⟩).N,0,0,aa,aa⟩
   else if x.B=5 then⟨2,(x.cells.getD x.K ⟨0,0⟩).J,0,(x.cells.getD x.K ⟨0,0⟩).word,aa,aa⟩
   else if x.B=6 then⟨5,x.F.getD x.K 0,0,0,aa,⟨IntKind.wrap .u64 (x.aj+1),false,0⟩⟩
   else⟨5,x.F.getD x.K 0,0,0,aa,x.was.getD x.K aa⟩),true)
 else(kn,false)
structure li (x:ct):Prop where
 c4:x.F.Pairwise (·<·)
 a6:x.F.length<=16
 was:x.was.length<=x.F.length
 ab:x.ab.length<=1000000
 cells:x.cells.length<=1000000
structure mH (x:ct):Prop where
 len:li x
 st:0<=x.B/\x.B<=7
 K:x.K<=1000000
 ba:x.Y.O=0 ->
  ((x.B=0\/x.B=1)->x.was.length<x.F.length/\x.K=0)/\((x.B=2\/x.B=3)->x.was.length=x.F.length/\x.K=0) /\
  (x.B=4->x.was.length=x.F.length/\x.K<x.ab.length)/\(x.B=5->x.was.length=x.F.length/\x.K<x.cells.length) /\
  (x.B=6->x.was.length=x.F.length/\x.K<x.F.length)/\(x.B=7->x.K<x.was.length/\x.O≠0)
def li.be {x y:ct}(h:li x)(h1:y.F=x.F)(h2:y.was=x.was)(h3:y.ab=x.ab)(h4:y.cells=x.cells):li y :=
 ⟨by rw[h1];exact h.c4,by rw[h1];exact h.a6,by rw[h1,h2];exact h.was,by rw[h3];exact h.ab,by rw[h4];exact h.cells⟩
def Nn {x:ct}(h:li x)(d:x.B=7)(e:x.K<=x.was.length)(c:x.O≠0):mH (jC x):=by
 have a:=h.was
 have b:=h.a6
 unfold jC
 split
 ·exact⟨h.be rfl rfl rfl rfl,by simp[d],by simp only;omega,λg=>absurd g c⟩
 ·exact⟨h,zo,zo,λ_=>⟨zo,zo,zo,zo,zo,zo⟩⟩
def tB {x:ct}(h:li x){e er b:Int}(he:e≠0):mH (jM x e er b):=Nn (h.be rfl rfl rfl rfl) rfl (zag _) he
def Py {x:ct}(h:mH x)(b:x.Y.O=0)(l:ey):mH (kM x l):=by
 have a:(x.Y.waits l.ar).1.O=x.Y.O:=by unfold qM.waits;split<;>rfl
 unfold kM
 split
 ·exact⟨h.len.be rfl rfl rfl rfl,h.st,h.K,λ_=>h.ba b⟩
 ·exact tB (x:={ x with Y:=(x.Y.waits l.ar).1 }) (e:=5) (h.len.be rfl rfl rfl rfl) zd
def PX {x:ct}(h:li x)(b:x.B=6)(d:x.K<=x.F.length)(c:x.was.length=x.F.length):mH (kf x):=by
 have a:=h.a6
 unfold kf
 split
 ·exact⟨h.be rfl rfl rfl rfl,by simp[b],by simp only;omega,λg=>by simp[qM.bn]at g⟩
 ·exact⟨h,zo,zo,λ_=>⟨zo,zo,zo,zo,zo,zo⟩⟩
def MX {x:ct}(h:li x)(c:x.B=5)(d:x.K<=x.cells.length)(b:x.was.length=x.F.length):mH (jI x):=by
 have a:=h.cells
 unfold jI
 split
 ·exact PX (h.be rfl rfl rfl rfl) rfl (zag _) b
 ·exact⟨h,zo,zo,λ_=>⟨zo,zo,zo,zo,zo,zo⟩⟩
def MY {x:ct}(h:li x)(hw:x.was.length=x.F.length):mH (mo x):=MX (h.be rfl rfl rfl rfl) rfl (zag _) hw
def FV:∀{n:Nat}{x:ct},li x->x.B=4->x.was.length=x.F.length->x.ab.length=x.K+n->mH (proveN n x)
 |0,x,h,hs,hw,hn=>MY h hw
 |n+1,x,h,hs,hw,hn=>by
  have h2:=h.ab
  unfold proveN
  split
  ·exact⟨h,zo,zo,λ_=>⟨zo,zo,zo,zo,zo,zo⟩⟩
  ·split
   ·exact FV (h.be rfl rfl rfl rfl) hs hw (by simp only;omega)
   ·exact tB (e:=5) h zd
def M5 {x:ct}(h:li x)(hw:x.was.length=x.F.length)(hp:x.K<=x.ab.length):mH (pH x):=FV (h.be rfl rfl rfl rfl) rfl hw (by simp only;omega)
def Qx {x:ct}(h:li x)(b:x.K=0):mH (kA x):=by
 have a:=h.was
 unfold kA
 refine⟨h.be rfl rfl rfl rfl,by simp only;split<;>omega,by simp only;omega,λ_=>?_⟩
 simp only
 split<;>exact⟨zo,zo,zo,zo,zo,zo⟩
def mN {x:ct}(h:mH x)(a:ii):mH (bk x a):=by
 have n:=h.K
 unfold bk
 split
 ·rename_i b
  have i:x.Y.aZ a.aV=x.Y:=by
   unfold qM.aZ at b ⊢;split
   ·rename_i h;rw[zp h]at b;simp[qM.bn]at b
   ·rfl
  rw[i]at b
  obtain⟨f,d,l,m,k,j⟩:=h.ba b
  split
  ·rename_i c
   have g:=f c
   unfold oN
   split
   ·split
    ·exact Py h b _
    ·exact⟨h.len.be rfl rfl rfl rfl,zs,by simp only;omega,λ_=>⟨by simp only;omega,by simp only;omega,by simp only;omega,by simp only;omega,by simp only;omega,by simp only;omega⟩⟩
   ·split
    ·exact Qx ⟨h.len.c4,h.len.a6,by simp;omega,h.len.ab,h.len.cells⟩ g.2
    ·exact⟨h.len.be rfl rfl rfl rfl,zs,by simp only;omega,λ_=>⟨by simp only;omega,by simp only;omega,by simp only;omega,by simp only;omega,by simp only;omega,by simp only;omega⟩⟩
  split
  ·rename_i c
   have g:=d c
   unfold mf
   split
   ·split
    ·exact tB (e:=4) h.len zd
    ·exact⟨h.len.be rfl rfl rfl rfl,zs,by simp only;omega,λ_=>⟨by simp only;omega,by simp only;omega,by simp only;omega,by simp only;omega,by simp only;omega,by simp only;omega⟩⟩
   ·split
    ·exact⟨h.len.be rfl rfl rfl rfl,zs,by simp only;omega,λ_=>⟨by simp only;omega,by simp only;omega,by simp only;omega,by simp only;omega,by simp only;omega,by simp only;omega⟩⟩
    ·split
     ·exact MY h.len g.1
     ·exact M5 h.len g.1 zo
  split
  ·rename_i c
   have g:=l c
   unfold mc
   split
   ·exact Py h b _
   ·split
    ·exact M5 (h.len.be rfl rfl rfl rfl) g.1 (by simp only;omega)
    ·exact tB (e:=5) h.len zd
  split
  ·rename_i c
   have g:=m c
   exact MX (h.len.be rfl rfl rfl rfl) c (by simp only;omega) g.1
  split
  ·rename_i c
   have g:=k c
   exact PX (h.len.be rfl rfl rfl rfl) c (by simp only;omega) g.1
  ·have c:x.B=7:=by have:=h.st;omega
   have g:=j c
   exact Nn (h.len.be rfl rfl rfl rfl) c (by simp only;omega) g.2
 ·rename_i b
  exact⟨h.len.be rfl rfl rfl rfl,h.st,h.K,λg=>absurd g b⟩
end Go.Proofs.YtoealglbimbbmaaGreatDoor.S
namespace Go.Proofs.YtoealglbimbbmaaGreatDoor.S
open Go Go.Proofs
abbrev ct.aW (x:ct)(v1 v2 v3 v4:Value):List Value:=[i64 x.me,u64 x.I,v1,v2,v3,v4,i64 x.B,i64 x.K,u64 x.ac.D,.bool x.ac.held,i64 x.ac.ar,u64 x.aj,.bool x.ao,i64 x.O,i64 x.aY,i64 x.aV]
abbrev XI (v1 v2 v3 v4:Value):Prop:=ax v1 [v1]/\ax v2 [v2]/\ax v3 [v3]/\ax v4 [v4]
def mz (b:Nat)(x:ct):bg:=pz λv1=>pz λv2=>pz λv3=>pz λv4=>cj (kx (XI v1 v2 v3 v4)) (cj (cj (cj (cj (own b (x.Y.cells (x.aW v1 v2 v3 v4))) (sl lh v1 x.ab)) (sl cg v2 x.cells)) (sl bq v3 x.F)) (sl rE v4 x.was))
section
variable {w0:bz}{L M:List bg}{K:KV}{F:World->Prop}{C:bg->List bg}{b:Nat}{x:ct}
def du:G w0 (ob mz b x::M) F=∀v1 v2 v3 v4,XI v1 v2 v3 v4->G w0 (own b (x.Y.cells (x.aW v1 v2 v3 v4))::sl lh v1 x.ab::sl cg v2 x.cells::sl bq v3 x.F::sl rE v4 x.was::M) F:=by
 rw[iw,mz]
 simp only[pM,im,jk]
def fo {v1 v2 v3 v4:Value}(b:Nat)(x:ct) [dn [own b (x.Y.cells (x.aW v1 v2 v3 v4)),sl lh v1 x.ab,sl cg v2 x.cells,sl bq v3 x.F,sl rE v4 x.was] L M]
  (h:XI v1 v2 v3 v4) (H:G w0 (ob mz b x::M) F):G w0 L F :=
 G.ap (As:=[own b (x.Y.cells (x.aW v1 v2 v3 v4)),sl lh v1 x.ab,sl cg v2 x.cells,sl bq v3 x.F,sl rE v4 x.was]) (by rw[du]at H;exact H v1 v2 v3 v4 h)
def X6 {t:Bool}{A B:World->Prop}(h:t=true):G w0 L (aj (.bool t) A B)=G w0 L A:=by rw[h,UJ]
def X2 {t:Bool}{A B:World->Prop}(h:t=false):G w0 L (aj (.bool t) A B)=G w0 L B:=by rw[h,Us]
def ZN {t:Bool}{A B:World->Prop}(h:t=true):G w0 L (aj (.bool (!t)) A B)=G w0 L B:=by rw[h];exact congrArg _ Us
def afX {t:Bool}{A B:World->Prop}(h:t=false):G w0 L (aj (.bool (!t)) A B)=G w0 L A:=by rw[h];exact congrArg _ UJ
def sJ [i:ae L mz b x C](hK:G w0 (C (ob mz b (jC x))) (K (.tuple #[]))):G w0 L (ac 418 [ptr b 0] K):=by
 refine i.bi (λM hK=>?_) hK
 refine Df ?_
 unfold sI
 rw[du]
 rintro a v2 v3 v4 ⟨h1,h2,h3,h4⟩
 refine G.drew (wa ?_)
 refine G.aU ?_
 unfold jC at hK
 refine G.cond (λh=>?_) (λh=>?_)
 ·rw[zp (by simp at h;omega),du]at hK
  refine G.drew (wa ?_)
  refine fc (p:=x.Y) (rest:=x.aW a v2 v3 v4) (wa ?_)
  exact(hK a v2 v3 v4 ⟨h1,h2,h3,h4⟩).sub
 ·rw[zn (by simp at h;omega),du]at hK
  exact(hK a v2 v3 v4 ⟨h1,h2,h3,h4⟩).sub
def lO {e er a:Int}[i:ae L mz b x C](hK:G w0 (C (ob mz b (jM x e er a))) (K (.tuple #[]))):G w0 L (ac 420 [ptr b 0,i64 e,i64 er,i64 a] K):=by
 refine i.bi (λM hK=>?_) hK
 refine E5 ?_
 unfold uU
 rw[du]
 rintro c v2 v3 v4 ⟨h1,h2,h3,h4⟩
 refine wa ?_
 refine fo b { x with O:=e,aV:=er,aY:=a,K:=0,B:=7 } ⟨h1,h2,h3,h4⟩ ?_
 refine sJ (x:={ x with O:=e,aV:=er,aY:=a,K:=0,B:=7 }) ?_
 exact hK
def uQ {l:ey}[i:ae L mz b x C](hK:G w0 (C (ob mz b (kM x l))) (K (.tuple #[]))):G w0 L (ac 419 [ptr b 0,.agg (ey.cells l).toArray] K):=by
 refine i.bi (λM hK=>?_) hK
 refine EG ?_
 unfold tR
 refine G.box λq=>?_
 rw[jc,du]
 rintro a v2 v3 v4 ⟨h1,h2,h3,h4⟩
 refine G.drew (wa ?_)
 refine lG (p:=x.Y) (x:=l) (rest:=x.aW a v2 v3 v4) (wa ?_)
 refine G.aU ?_
 unfold kM at hK
 cases c:(x.Y.waits l.ar).2
 ·rw[zn (by rw[c];decide)]at hK
  refine wa ?_
  refine fo b { x with Y:=(x.Y.waits l.ar).1 } ⟨h1,h2,h3,h4⟩ ?_
  refine lO (x:={ x with Y:=(x.Y.waits l.ar).1 }) ?_
  exact hK.sub
 ·rw[zp c,du]at hK
  refine wa ?_
  exact(hK a v2 v3 v4 ⟨h1,h2,h3,h4⟩).sub
def uy [i:ae L mz b x C](hK:G w0 (C (ob mz b (kf x))) (K (.tuple #[]))):G w0 L (ac 417 [ptr b 0] K):=by
 refine i.bi (λM hK=>?_) hK
 refine Fq ?_
 unfold uM
 rw[du]
 rintro a v2 v3 v4 ⟨h1,h2,h3,h4⟩
 refine G.drew (wa ?_)
 refine G.aU ?_
 unfold kf at hK
 refine G.cond (λh=>?_) (λh=>?_)
 ·rw[zp (by simp at h;omega),du]at hK
  refine wa ?_
  refine fc (p:=x.Y) (rest:=x.aW a v2 v3 v4) ?_
  exact(hK a v2 v3 v4 ⟨h1,h2,h3,h4⟩).sub
 ·rw[zn (by simp at h;omega),du]at hK
  exact(hK a v2 v3 v4 ⟨h1,h2,h3,h4⟩).sub
def sS [i:ae L mz b x C](hK:G w0 (C (ob mz b (jI x))) (K (.tuple #[]))):G w0 L (ac 416 [ptr b 0] K):=by
 refine i.bi (λM hK=>?_) hK
 refine De ?_
 unfold sa
 rw[du]
 rintro a v2 v3 v4 ⟨h1,h2,h3,h4⟩
 refine G.drew (wa ?_)
 refine G.aU ?_
 unfold jI at hK
 refine G.cond (λh=>?_) (λh=>?_)
 ·rw[zp (by simp at h;omega)]at hK
  refine wa ?_
  refine fo b { x with K:=0,B:=6 } ⟨h1,h2,h3,h4⟩ ?_
  exact uy (x:={ x with K:=0,B:=6 }) hK
 ·rw[zn (by simp at h;omega),du]at hK
  exact(hK a v2 v3 v4 ⟨h1,h2,h3,h4⟩).sub
def rY [i:ae L mz b x C](hK:G w0 (C (ob mz b (mo x))) (K (.tuple #[]))):G w0 L (ac 412 [ptr b 0] K):=by
 refine i.bi (λM hK=>?_) hK
 refine CQ ?_
 unfold sV
 rw[du]
 rintro a v2 v3 v4 ⟨h1,h2,h3,h4⟩
 refine wa ?_
 refine fo b { x with ao:=true,K:=0,B:=5 } ⟨h1,h2,h3,h4⟩ ?_
 exact sS (x:={ x with ao:=true,K:=0,B:=5 }) hK
def t4 [i:ae L mz b x C](hK:G w0 (C (ob mz b (kA x))) (K (.tuple #[]))):G w0 L (ac 176 [ptr b 0] K):=by
 refine i.bi (λM hK=>?_) hK
 refine EY ?_
 unfold tT
 rw[du]
 rintro a v2 v3 v4 ⟨h1,h2,h3,h4⟩
 refine wa ?_
 refine G.drew (wa ?_)
 refine G.aU ?_
 unfold kA at hK
 refine G.cond (λh=>?_) (λh=>?_)
 ·rw[zp (by simp at h;omega),du]at hK
  refine wa ?_
  exact(hK a v2 v3 v4 ⟨h1,h2,h3,h4⟩).sub
 ·rw[zn (by simp at h;omega),du]at hK
  exact(hK a v2 v3 v4 ⟨h1,h2,h3,h4⟩).sub
def Qu {m n:Int}(hK:G w0 L (K (.bool (decide (m<n))))):G w0 L (ac 279 [i64 m,i64 n] K):=by
 refine PC ?_
 unfold ES
 refine mK ?_
 refine NM ?_
 unfold Cx
 refine ar ?_
 exact hK
def rJ:List Int->Int->Nat
 | [],_=>0
 |s::l,a=>if s<a then rJ l a+1 else 0
theorem T1 {a:Int}:∀{l:List Int},rJ l a<=l.length
 | []=>by simp[rJ]
 |s::l=>by unfold rJ;have:=T1 (a:=a) (l:=l);simp only[zad];split<;>omega
def T8 {a:Int}:∀{l:List Int},(∀j (h:j<l.length),j<rJ l a->l[j]<a)/\(∀h:rJ l a<l.length,a<=l[rJ l a])
 | []=>⟨λj h=>by simp at h,λh=>by simp at h⟩
 |s::l=>by
  have ih:=T8 (a:=a) (l:=l)
  constructor
  ·intro j h hj
   unfold rJ at hj
   split at hj
   ·rename_i hs
    cases j with
    |zero=>simpa using hs
    |succ j=>simpa using ih.1 j (by simpa using h) zo
   ·omega
  ·intro h
   unfold rJ at h
   by_cases hs:s<a
   ·have e:rJ (s::l) a=rJ l a+1:=by simp[rJ,hs]
    simp only[e]
    rw[zp hs]at h
    simpa using ih.2 (by simpa using h)
   ·have e:rJ (s::l) a=0:=by simp[rJ,hs]
    simp only[e]
    simpa using(by omega:a<=s)
def acr {a:Int}{l:List Int}{i:Nat}(hi:i<=l.length)(b:∀j (h:j<l.length),j<i->l[j]<a)(c:∀h:i<l.length,a<=l[i]):rJ l a=i:=by
 have⟨g1,g2⟩:=T8 (a:=a) (l:=l)
 grind[T1,rJ]
def Wy {a:Int}{l:List Int}(i:l.Pairwise (·<·)):(∀h:rJ l a<l.length,l[rJ l a]=a->tU l a=some (rJ l a))/\((rJ l a<l.length->l[rJ l a]?≠some a)->tU l a=none):=by
 have⟨g1,g2⟩:=T8 (a:=a) (l:=l)
 refine⟨λh e=>V2 i (by rw[dg h,e]),λh=>?_⟩
 rw[F1]
 intro d
 obtain⟨j,hj,e⟩:=zaU d
 have f:rJ l a<=j:=by grind
 have b:rJ l a<l.length:=by omega
 have c:=h b
 rw[dg b]at c
 have k:=g2 b
 rcases zaE (rJ l a) j with g|g
 ·have:=zaT.1 i _ j b hj g;omega
 all_goals grind
def akx (i j:Nat)(h:i<=j)(hj:j<=1000000):IntKind.wrap .i64 ((IntKind.wrap .u64 (IntKind.wrap .i64 ((i:Int)+j))).fdiv (2 ^ min (1:Int).toNat IntKind.u64.bits))=(((i+j) / 2:Nat):Int):=by
 rw[jL (n:=(i:Int)+j) zo zo,Ul zo zo]
 have:(2:Int) ^ min (1:Int).toNat IntKind.u64.bits=2:=by decide
 grind[jL]
def yI {v:Value}{l:List Int}{a:Int}[r:Rd w0 L v bq 1 l](x:l.Pairwise (·<·))(C:l.length<=1000000)
  (hK:G w0 L (K (.tuple #[i64 (rJ l a),.bool (tU l a).isSome]))):G w0 L (ac 422 [v,i64 a] K):=by
 refine uK ?_
 unfold mF
 refine mK ?_
 refine ar ?_
 refine G.bN (σ:=Nat×Nat) (λz=>i64 z.1) (λz=>i64 z.2) (λ_=>L) (λz=>z.1<=z.2/\z.2<=l.length/\(∀j (h:j<l.length),j<z.1->l[j]<a)/\(∀j (h:j<l.length),z.2<=j->a<=l[j])) (λz=>z.2-z.1) (0,l.length) rfl rfl rfl ⟨zs,zs,λj h hj=>by simp at hj,λj h hj=>by simp only at hj;omega⟩ ?_
 rintro⟨i,j⟩ ⟨f,c,m,n⟩ J hJ
 simp only at f c m n hJ ⊢
 refine ar ?_
 refine G.cond (λh=>?_) (λh=>?_)
 ·have A:i<j:=by simpa using h
  have s:(i+j) / 2<l.length:=by omega
  have e:=dm s
  rw[akx i j f zo]
  refine ar ?_
  refine Qu ?_
  refine G.b9 ?_
  refine G.cond (λy=>?_) (λy=>?_)
  ·have u:l[(i+j) / 2]<a:=by grind
   refine ar ?_
   rw[fm zo]
   exact hJ ((i+j) / 2+1,j) ⟨by simp only;omega,c,λk q t=>by
    rcases zaE k ((i+j) / 2)with g|g
    ·have:=zaT.1 x k _ q s g;omega
    ·have:k=(i+j) / 2:=by grind
     subst this;exact u,n⟩ (by simp only;omega)
  ·have u:¬l[(i+j) / 2]<a:=by grind
   exact hJ (i,(i+j) / 2) ⟨by simp only;omega,by simp only;omega,m,λk q t=>by
    rcases zaE ((i+j) / 2) k with g|g
    ·have:=zaT.1 x _ k s q g;omega
    ·have:k=(i+j) / 2:=by grind
     subst this;omega⟩ (by simp only;omega)
 ·have d:i=j:=by grind
  subst d
  have p:rJ l a=i:=acr c m (λh=>n i h (LT _))
  have⟨q1,q2⟩:=Wy (a:=a) x
  rw[p]at hK q2
  by_cases w:i<l.length
  ·have e:=dm w
   have b:(i:Int)<(l.length:Int):=by omega
   by_cases o:l[i]=a
   ·have:tU l a=some i:=by grind
    rw[this]at hK
    refine ca (an b o) ?_
    exact hK
   ·have:tU l a=none:=q2 (λh=>by rw[dg h];simpa using o)
    rw[this]at hK
    have B:¬(i:Int)<(i:Int):=by omega
    refine ca (an b o) ?_
    refine Ir ?_
    unfold yq
    refine ar ?_
    exact hK
  ·have:tU l a=none:=q2 (λh=>absurd h w)
   rw[this]at hK
   have b:¬(i:Int)<(l.length:Int):=by omega
   refine ca b ?_
   exact hK
def o9 [i:ae L mz b x C](hK:G w0 L (K (i64 x.Y.O))):G w0 L (ac 157 [ptr b 0] K):=by
 refine i.ro (λM hK=>?_) hK
 rw[du]at *
 rintro a v2 v3 v4 hv
 refine wB ?_
 unfold po
 refine wa ?_
 refine ia (p:=x.Y) (rest:=x.aW a v2 v3 v4) ?_
 exact hK a v2 v3 v4 hv
def Gq [i:ae L mz b x C](hK:G w0 L (K (i64 x.Y.aV))):G w0 L (ac 179 [ptr b 0] K):=by
 refine i.ro (λM hK=>?_) hK
 rw[du]at *
 rintro a v2 v3 v4 hv
 refine Gu ?_
 unfold ww
 refine wa ?_
 refine Bx (p:=x.Y) (rest:=x.aW a v2 v3 v4) ?_
 exact hK a v2 v3 v4 hv
def IE [i:ae L mz b x C](hK:G w0 L (K (i64 x.Y.aY))):G w0 L (ac 409 [ptr b 0] K):=by
 refine i.ro (λM hK=>?_) hK
 rw[du]at *
 rintro a v2 v3 v4 hv
 refine IV ?_
 unfold xk
 refine wa ?_
 refine mR (p:=x.Y) (rest:=x.aW a v2 v3 v4) ?_
 exact hK a v2 v3 v4 hv
def Du [i:ae L mz b x C](hK:G w0 L (K (u64 (if x.ao=true then IntKind.wrap .u64 (x.aj+1)else 0)))):G w0 L (ac 148 [ptr b 0] K):=by
 refine i.ro (λM hK=>?_) hK
 rw[du]at *
 rintro c v2 v3 v4 hv
 refine CY ?_
 unfold sM
 cases a:x.ao
 ·refine ca a ?_
  have h:=hK c v2 v3 v4 hv
  simp only[a]at h
  exact h
 ·refine ca a ?_
  have h:=hK c v2 v3 v4 hv
  simp only[a]at h
  exact h
def Bc [i:ae L mz b x C](hK:G w0 L (K (.bool (x.ao&&decide (x.Y.O=0))))):G w0 L (ac 156 [ptr b 0] K):=by
 refine i.ro (λM hK=>?_) hK
 rw[du]at *
 rintro c v2 v3 v4 hv
 refine Au ?_
 unfold qc
 have h:=hK c v2 v3 v4 hv
 cases a:x.ao
 ·simp only[a]at h
  refine ca a ?_
  exact h
 ·simp only[a,za6]at h
  refine ca a ?_
  refine wB ?_
  unfold po
  refine ar ?_
  refine ia (p:=x.Y) (rest:=x.aW c v2 v3 v4) (ar ?_)
  exact h
def sC (q:li x)(H:x.was.length=x.F.length)(E:x.K<=x.ab.length)[i:ae L mz b x C](hK:G w0 (C (ob mz b (pH x))) (K (.tuple #[]))):G w0 L (ac 421 [ptr b 0] K):=by
 refine i.bi (λM hK=>?_) hK
 refine Dq ?_
 unfold se
 have s:=q.a6
 have o:=q.ab
 rw[du]
 rintro r v2 v3 v4 ⟨h1,h2,h3,h4⟩
 refine wa ?_
 refine fo b { x with B:=4 } ⟨h1,h2,h3,h4⟩ ?_
 refine G.cV (σ:=Nat) (λk=>ob mz b { x with B:=4,K:=k }::M) (λk=>x.K<=k/\k<=x.ab.length/\pH x=proveN (x.ab.length-k) { x with B:=4,K:=k }) (λk=>x.ab.length-k) x.K rfl ⟨LT _,E,rfl⟩ ?_
 rintro k ⟨w,y,c⟩ J hJ
 rw[c]at hK
 rw[du]
 rintro r v2 v3 v4 ⟨h1,h2,h3,h4⟩
 refine G.drew (wa ?_)
 refine G.cond (λh=>?_) (λh=>?_)
 ·have d:k<x.ab.length:=by simpa using h
  have e:=dm d
  have v:x.ab.getD k ⟨0,0⟩=x.ab[k]:=by simp[d]
  rw[show x.ab.length-k=(x.ab.length-(k+1))+1 by omega]at hK c
  unfold proveN at hK c
  simp only[v,aec]at hK c
  refine G.drew (wa ?_)
  refine yI (l:=x.F) q.c4 zo (wa ?_)
  cases f:tU x.F x.ab[k].N with
  |none =>
   rw[f]at hK
   simp only[Option.map_none]at hK
   refine Ts @Option.isSome_none.{0} ?_
   rw[du]at hK
   exact(hK r v2 v3 v4 ⟨h1,h2,h3,h4⟩).sub
  |some j =>
   have hj:=age f
   have p:rJ x.F x.ab[k].N=j:=by
    have⟨g1,g2⟩:=Wy (a:=x.ab[k].N) q.c4
    have z:=T1 (a:=x.ab[k].N) (l:=x.F)
    by_cases u:rJ x.F x.ab[k].N<x.F.length
    ·by_cases t:x.F[rJ x.F x.ab[k].N]=x.ab[k].N
     ·have:=g1 u t;rw[f]at this;cases this;rfl
     ·have:=g2 (λh=>by rw[dg h];simpa using t);rw[f]at this;cases this
    ·have:=g2 (λh=>absurd h u);rw[f]at this;cases this
   have g:j<x.was.length:=by omega
   have A:=dm g
   have n:x.was.getD j aa=x.was[j]:=by simp[g]
   rw[f]at hK c
   simp only[Option.map_some,n]at hK c
   rw[p]
   refine Ts @Option.isSome_some.{0} ?_
   refine G.drew (wa ?_)
   by_cases m:x.was[j].D=x.ab[k].D
   ·rw[zp m]at c
    refine Ts m ?_
    rw[fm zo]
    refine fo b { x with B:=4,K:=k+1 } ⟨h1,h2,h3,h4⟩ ?_
    exact hJ (k+1) ⟨zo,zo,c⟩ zo
   ·rw[zn m]at hK
    refine Ts m ?_
    refine fo b { x with B:=4,K:=k } ⟨h1,h2,h3,h4⟩ ?_
    refine lO (x:={ x with B:=4,K:=k }) ?_
    exact hK
 ·have d:k=x.ab.length:=by grind
  subst d
  rw[za8]at hK
  unfold proveN at hK
  refine fo b { x with B:=4,K:=x.ab.length } ⟨h1,h2,h3,h4⟩ ?_
  refine rY (x:={ x with B:=4,K:=x.ab.length }) ?_
  exact hK
def u9 {a:ii}(k:li x)[i:ae L mz b x C](hK:G w0 (C (ob mz b (oN x a))) (K (.tuple #[]))):G w0 L (ac 413 [ptr b 0,.agg (ii.cells a).toArray] K):=by
 refine i.bi (λM hK=>?_) hK
 refine Fj ?_
 unfold uv
 have h:=k.a6
 have g:=k.was
 refine mK ?_
 refine G.box λq=>?_
 rw[jc,du]
 rintro f v2 v3 v4 ⟨h1,h2,h3,h4⟩
 refine ar ?_
 unfold oN at hK
 by_cases c:x.B=0
 ·rw[zp c]at hK
  cases d:a.ac.held
  ·rw[zn (by rw[d];decide),du]at hK
   repeat' (first|(with_reducible refine G.aU ?_)|(with_reducible refine G.bk ?_)|(with_reducible refine G.drew ?_)|(simp (maxSteps:=2000000) only[↓RG,RP,RB,zac,Int.reduceEq,Int.reduceLT,Int.reduceLE,Nat.reduceEqDiff,eq_true c,X2 d]))
   exact(hK f v2 v3 v4 ⟨h1,h2,h3,h4⟩).sub
  ·rw[zp d]at hK
   repeat' (first|(with_reducible refine G.aU ?_)|(with_reducible refine G.bk ?_)|(with_reducible refine G.drew ?_)|(simp (maxSteps:=2000000) only[↓RG,RP,RB,zac,Int.reduceEq,Int.reduceLT,Int.reduceLE,Nat.reduceEqDiff,eq_true c,X6 d]))
   refine fo b x ⟨h1,h2,h3,h4⟩ ?_
   refine uQ (x:=x) (l:=a.ac) ?_
   exact hK.sub
 ·rw[zn c]at hK
  cases e:a.done
  ·rw[zn (by rw[e];decide),du]at hK
   repeat' (first|(with_reducible refine G.aU ?_)|(with_reducible refine G.bk ?_)|(with_reducible refine G.drew ?_)|(simp (maxSteps:=2000000) only[↓RG,RP,RB,zac,Int.reduceEq,Int.reduceLT,Int.reduceLE,Nat.reduceEqDiff,c,X2 e]))
   exact(hK f v2 v3 v4 ⟨h1,h2,h3,h4⟩).sub
  ·rw[zp e]at hK
   repeat' (first|(with_reducible refine G.aU ?_)|(with_reducible refine G.bk ?_)|(with_reducible refine G.drew ?_)|(simp (maxSteps:=2000000) only[↓RG,RP,RB,zac,Int.reduceEq,Int.reduceLT,Int.reduceLE,Nat.reduceEqDiff,c,X6 e]))
   refine G.build rE [x.ac] rfl zs rfl λm n=>bi ?_
   refine G.append (xs:=x.was) (ys:=[x.ac]) (by simp;omega) (by simp[maxLen];omega) λo j=>bi ?_
   refine fo b { x with was:=x.was++[x.ac] } ⟨h1,h2,h3,j⟩ ?_
   refine t4 (x:={ x with was:=x.was++[x.ac] }) ?_
   exact hK.sub
def sk {a:ii}(k:li x)(l:x.B=3->x.was.length=x.F.length/\x.K=0)[i:ae L mz b x C](m:x.B=2\/x.B=3)(hK:G w0 (C (ob mz b (mf x a))) (K (.tuple #[]))):G w0 L (ac 414 [ptr b 0,.agg (ii.cells a).toArray] K):=by
 refine i.bi (λM hK=>?_) hK
 refine CS ?_
 unfold rW
 refine mK ?_
 refine G.box λq=>?_
 rw[jc,du]
 rintro j v2 v3 v4 ⟨h1,h2,h3,h4⟩
 refine ar ?_
 unfold mf at hK
 by_cases c:x.B=2
 ·rw[zp c]at hK
  by_cases f:4611686018427387903<=a.word
  ·rw[zp f]at hK
   refine bx (an (eq_true c) f) ?_
   refine fo b x ⟨h1,h2,h3,h4⟩ ?_
   refine lO (x:=x) ?_
   exact hK.sub
  ·rw[zn f,du]at hK
   refine bx (an (eq_true c) f) ?_
   exact(hK j v2 v3 v4 ⟨h1,h2,h3,h4⟩).sub
 ·rw[zn c]at hK
  have h:x.B=3:=by omega
  have g:=l h
  cases d:a.done
  ·rw[zp d,du]at hK
   repeat' (first|(with_reducible refine G.aU ?_)|(with_reducible refine G.bk ?_)|(with_reducible refine G.drew ?_)|(simp (maxSteps:=2000000) only[↓RG,RP,RB,zac,Int.reduceEq,Int.reduceLT,Int.reduceLE,Nat.reduceEqDiff,c,afX d]))
   exact(hK j v2 v3 v4 ⟨h1,h2,h3,h4⟩).sub
  ·rw[zn (by rw[d];decide)]at hK
   by_cases e:x.aj=x.I
   ·rw[zp e]at hK
    repeat' (first|(with_reducible refine G.aU ?_)|(with_reducible refine G.bk ?_)|(with_reducible refine G.drew ?_)|(simp (maxSteps:=2000000) only[↓RG,RP,RB,zac,Int.reduceEq,Int.reduceLT,Int.reduceLE,Nat.reduceEqDiff,c,ZN d,eq_true e]))
    refine fo b x ⟨h1,h2,h3,h4⟩ ?_
    refine rY (x:=x) ?_
    exact hK.sub
   ·rw[zn e]at hK
    repeat' (first|(with_reducible refine G.aU ?_)|(with_reducible refine G.bk ?_)|(with_reducible refine G.drew ?_)|(simp (maxSteps:=2000000) only[↓RG,RP,RB,zac,Int.reduceEq,Int.reduceLT,Int.reduceLE,Nat.reduceEqDiff,c,ZN d,e]))
    refine fo b x ⟨h1,h2,h3,h4⟩ ?_
    refine sC (x:=x) k g.1 zo ?_
    exact hK.sub
def BD {l:ey}(h:li x)(k:x.was.length=x.F.length)(f:x.K<x.ab.length)[i:ae L mz b x C](hK:G w0 (C (ob mz b (mc x l))) (K (.tuple #[]))):G w0 L (ac 415 [ptr b 0,.agg (ey.cells l).toArray] K):=by
 refine i.bi (λM hK=>?_) hK
 refine B0 ?_
 unfold qP
 have d:=h.ab
 refine G.box λq=>?_
 rw[jc,du]
 rintro j v2 v3 v4 ⟨h1,h2,h3,h4⟩
 have e:=dm f
 have g:x.ab.getD x.K ⟨0,0⟩=x.ab[x.K]:=by simp[f]
 unfold mc at hK
 rw[g]at hK
 cases c:l.held
 ·rw[zn (by rw[c];decide)]at hK
  repeat' (first|(with_reducible refine G.aU ?_)|(with_reducible refine G.bk ?_)|(with_reducible refine G.drew ?_)|(simp (maxSteps:=2000000) only[↓RG,RP,RB,zac,Int.reduceEq,Int.reduceLT,Int.reduceLE,Nat.reduceEqDiff,X2 c]))
  by_cases a:l.D=x.ab[x.K].D
  ·rw[zp a]at hK
   refine bx (eq_true a) ?_
   rw[fm zo]
   refine fo b { x with K:=x.K+1 } ⟨h1,h2,h3,h4⟩ ?_
   refine sC (x:={ x with K:=x.K+1 }) (h.be rfl rfl rfl rfl) k f ?_
   exact hK.sub
  ·rw[zn a]at hK
   refine bx a ?_
   refine fo b x ⟨h1,h2,h3,h4⟩ ?_
   refine lO (x:=x) ?_
   exact hK.sub
 ·rw[zp c]at hK
  repeat' (first|(with_reducible refine G.aU ?_)|(with_reducible refine G.bk ?_)|(with_reducible refine G.drew ?_)|(simp (maxSteps:=2000000) only[↓RG,RP,RB,zac,Int.reduceEq,Int.reduceLT,Int.reduceLE,Nat.reduceEqDiff,X6 c]))
  refine fo b x ⟨h1,h2,h3,h4⟩ ?_
  refine uQ (x:=x) (l:=l) ?_
  exact hK.sub
def D6 {a:ii}(k:mH x)[i:ae L mz b x C](hK:G w0 (C (ob mz b (bk x a))) (K (.tuple #[]))):G w0 L (ac 411 [ptr b 0,.agg (ii.cells a).toArray] K):=by
 refine i.bi (λM hK=>?_) hK
 refine Fx ?_
 unfold uw
 have s:=k.K
 have v:=k.st
 refine G.box λq=>?_
 rw[jc,du]
 rintro r v2 v3 v4 ⟨h1,h2,h3,h4⟩
 refine G.drew (wa ?_)
 refine kO (p:=x.Y) (a:=a) (rest:=x.aW r v2 v3 v4) ?_
 unfold bk at hK
 by_cases c:(x.Y.aZ a.aV).O=0
 ·have t:x.Y.aZ a.aV=x.Y:=by
   unfold qM.aZ at c ⊢;split
   ·rename_i h;rw[zp h]at c;simp[qM.bn]at c
   ·rfl
  rw[zp c]at hK
  rw[t]at c
  rw[t]
  obtain⟨w,m,u,D,A,z⟩:=k.ba c
  by_cases d:x.B=0
  ·rw[zp (.inl d)]at hK
   refine bx (an (eq_true c) (eq_true d)) ?_
   refine fo b x ⟨h1,h2,h3,h4⟩ ?_
   refine u9 (x:=x) (a:=a) k.len ?_
   exact hK.sub
  by_cases e:x.B=1
  ·rw[zp (.inr e)]at hK
   refine bx (an (eq_true c) (an (eq_true e) d)) ?_
   refine fo b x ⟨h1,h2,h3,h4⟩ ?_
   refine u9 (x:=x) (a:=a) k.len ?_
   exact hK.sub
  rw[zn]at hK
  by_cases g:x.B=2
  ·rw[zp (.inl g)]at hK
   refine bx (an (eq_true c) (an (eq_true g) (an d e))) ?_
   refine fo b x ⟨h1,h2,h3,h4⟩ ?_
   refine sk (x:=x) (a:=a) k.len (λh=>m (.inr h)) (.inl g) ?_
   exact hK.sub
  by_cases j:x.B=3
  ·rw[zp (.inr j)]at hK
   refine bx (an (eq_true c) (an (eq_true j) (an d (an e g)))) ?_
   refine fo b x ⟨h1,h2,h3,h4⟩ ?_
   refine sk (x:=x) (a:=a) k.len (λh=>m (.inr h)) (.inr j) ?_
   exact hK.sub
  rw[zn]at hK
  by_cases f:x.B=4
  ·rw[zp f]at hK
   refine bx (an (eq_true c) (an (eq_true f) (an d (an e (an g j))))) ?_
   refine fo b x ⟨h1,h2,h3,h4⟩ ?_
   refine BD (x:=x) (l:=a.ac) k.len (u f).1 (u f).2 ?_
   exact hK.sub
  rw[zn f]at hK
  by_cases n:x.B=5
  ·rw[zp n]at hK
   refine bx (an (eq_true c) (an (eq_true n) (an d (an e (an g (an j f)))))) ?_
   rw[fm zo]
   refine fo b { x with K:=x.K+1 } ⟨h1,h2,h3,h4⟩ ?_
   refine sS (x:={ x with K:=x.K+1 }) ?_
   exact hK.sub
  rw[zn n]at hK
  by_cases o:x.B=6
  ·rw[zp o]at hK
   refine bx (an (eq_true c) (an (eq_true o) (an d (an e (an g (an j (an f n))))))) ?_
   rw[fm zo]
   refine fo b { x with K:=x.K+1 } ⟨h1,h2,h3,h4⟩ ?_
   refine uy (x:={ x with K:=x.K+1 }) ?_
   exact hK.sub
  rw[zn o]at hK
  have y:x.B=7:=by omega
  refine bx (an (eq_true c) (an (eq_true y) (an d (an e (an g (an j (an f (an n o)))))))) ?_
  rw[fm zo]
  refine fo b { x with K:=x.K+1 } ⟨h1,h2,h3,h4⟩ ?_
  refine sJ (x:={ x with K:=x.K+1 }) ?_
  exact hK.sub
 ·rw[zn c,du]at hK
  refine bx c ?_
  exact(hK r v2 v3 v4 ⟨h1,h2,h3,h4⟩).sub
def DS (v:mH x)[i:ae L mz b x C](hK:G w0 L (K (.tuple #[.agg (vV.cells (au x).1).toArray,.bool (au x).2]))):G w0 L (ac 410 [ptr b 0] K):=by
 refine i.ro (λM hK=>?_) hK
 rw[du]at *
 rintro s v2 v3 v4 hv
 have hK:=hK s v2 v3 v4 hv
 have w:=v.st
 have t:=v.len.was
 refine DJ ?_
 unfold uF
 refine G.new λq=>wa ?_
 refine ia (p:=x.Y) (rest:=x.aW s v2 v3 v4) ?_
 unfold au at hK
 by_cases c:x.Y.O=0
 ·rw[zp c]at hK
  obtain⟨m,E,D,y,A,z⟩:=v.ba c
  by_cases d:x.B=0
  ·rw[zp d]at hK
   have a:=(m (.inl d)).1
   have e:=dm a
   have f:x.F.getD x.was.length 0=x.F[x.was.length]:=by simp[a]
   rw[f]at hK
   refine bx (an (eq_true c) (eq_true d)) ?_
   exact hK.sub
  rw[zn d]at hK
  by_cases g:x.B=1
  ·rw[zp g]at hK
   have a:=(m (.inr g)).1
   have e:=dm a
   have f:x.F.getD x.was.length 0=x.F[x.was.length]:=by simp[a]
   rw[f]at hK
   refine bx (an (eq_true c) (an (eq_true g) d)) ?_
   refine G.new λH=>bi ?_
   exact hK.sub
  rw[zn g]at hK
  by_cases h:x.B=2
  ·rw[zp h]at hK
   refine bx (an (eq_true c) (an (eq_true h) (an d g))) ?_
   exact hK.sub
  rw[zn h]at hK
  by_cases j:x.B=3
  ·rw[zp j]at hK
   refine bx (an (eq_true c) (an (eq_true j) (an d (an g h)))) ?_
   exact hK.sub
  rw[zn j]at hK
  by_cases k:x.B=4
  ·rw[zp k]at hK
   have a:=(D k).2
   have e:=dm a
   have f:x.ab.getD x.K ⟨0,0⟩=x.ab[x.K]:=by simp[a]
   rw[f]at hK
   refine bx (an (eq_true c) (an (eq_true k) (an d (an g (an h j))))) ?_
   exact hK.sub
  rw[zn k]at hK
  by_cases l:x.B=5
  ·rw[zp l]at hK
   have a:=(y l).2
   have e:=dm a
   have f:x.cells.getD x.K ⟨0,0⟩=x.cells[x.K]:=by simp[a]
   rw[f]at hK
   refine bx (an (eq_true c) (an (eq_true l) (an d (an g (an h (an j k)))))) ?_
   exact hK.sub
  rw[zn l]at hK
  by_cases o:x.B=6
  ·rw[zp o]at hK
   have a:=(A o).2
   have e:=dm a
   have f:x.F.getD x.K 0=x.F[x.K]:=by simp[a]
   rw[f]at hK
   refine bx (an (eq_true c) (an (eq_true o) (an d (an g (an h (an j (an k l))))))) ?_
   exact hK.sub
  rw[zn o]at hK
  have u:x.B=7:=by omega
  have a:=(z u).1
  have n:x.K<x.F.length:=by omega
  have e:=dm a
  have I:=dm n
  have f:x.F.getD x.K 0=x.F[x.K]:=by simp[n]
  have r:x.was.getD x.K aa=x.was[x.K]:=by simp[a]
  rw[f,r]at hK
  refine bx (an (eq_true c) (an (eq_true u) (an d (an g (an h (an j (an k (an l o)))))))) ?_
  exact hK.sub
 ·rw[zn c]at hK
  refine bx c ?_
  exact hK.sub
def To {me sp stamp n wide:Int}{u v:Value}{seen:List jz}{cells:List ay}[r1:Rd w0 L u lh 2 seen][r2:Rd w0 L v cg 2 cells](i:seen.length<=100000)(j:cells.length<=100000)
  (hK:∀b,G w0 (ob mz b (ov me sp stamp seen cells (j4 (gh cells n wide) 16))::L) (K (ptr b 0))):G w0 L (ac 145 [i64 me,i64 sp,u64 stamp,u,v,i64 n,i64 wide] K):=by
 refine Um ?_
 unfold I9
 refine xE ?_
 refine jK (xs:=seen) zo λa g=>?_
 refine iQ (xs:=cells) zo λd c=>?_
 refine L1 (cs:=cells) zo λe f=>?_
 rw[QB]
 refine wa ?_
 refine G.box λb=>?_
 have h:=t4 (L:=ob mz b ⟨rj me sp,me,stamp,seen,cells,j4 (gh cells n wide) 16,[],0,0,aa,0,false,0,0,0⟩::L) (C:=λA=>A::L) (K:=λ_=>K (ptr b 0)) (b:=b) (x:=⟨rj me sp,me,stamp,seen,cells,j4 (gh cells n wide) 16,[],0,0,aa,0,false,0,0,0⟩) (hK b)
 rw[du]at h
 have h:=h a d e (.slice none 0 0) ⟨g,c,f,bj⟩
 refine G.a3 rE ?_
 refine G.ap (As:=[own b [i64 (rj me sp).me,i64 (rj me sp).aR,i64 (rj me sp).O,i64 (rj me sp).aY,i64 (rj me sp).aV,i64 me,u64 stamp,a,d,e,.slice none 0 0,i64 0,i64 0,u64 0,.bool false,i64 0,u64 0,.bool false,i64 0,i64 0,i64 0],sl lh a seen,sl cg d cells,sl bq e (j4 (gh cells n wide) 16),sl rE (.slice none 0 0) []]) ?_
 exact h
def abt {me sp stamp n wide:Int}{seen:List jz}{cells:List ay}(b:seen.length<=100000)(c:cells.length<=100000):mH (ov me sp stamp seen cells (j4 (gh cells n wide) 16)):=by
 have a:(j4 (gh cells n wide) 16).length<=16:=by
  unfold j4
  rw[zaq]
  grind
 exact Qx ⟨G0,a,zag _,by simp only;omega,by simp only;omega⟩ rfl
end
def Cd (b:Nat)(n:Int):bg:=own b [u64 n]
def CV (b:Nat)(m:eO):bg:=pz λh=>pz λt=>pz λc=>pz λs=>cj (cj (cj (cj (own b [i64 m.bf.a0,i64 m.bf.F,i64 m.bf.wide,i64 m.bf.aB,u64 m.bf.start,ptr h 0,ptr t 0,ptr c 0,ptr s 0,i64 m.aT])
 (ob mP h m.w)) (ob tx t (m.l,m.bf.wide))) (ob Cd c m.n)) (ob mP s m.s)
section
variable {w0:bz}{L M:List bg}{K:KV}{F:World->Prop}{C:bg->List bg}{b:Nat}{m:eO}{o:vV}{n:Int}
def Eo:ob Cd b n=own b [u64 n]:=by rw[iw,Cd]
def iZ:G w0 (ob CV b m::M) F=∀h t c s,G w0 (own b [i64 m.bf.a0,i64 m.bf.F,i64 m.bf.wide,i64 m.bf.aB,u64 m.bf.start,ptr h 0,ptr t 0,ptr c 0,ptr s 0,i64 m.aT] ::
  ob mP h m.w::ob tx t (m.l,m.bf.wide)::ob Cd c m.n::ob mP s m.s::M) F:=by
 rw[iw,CV]
 simp only[pM,im]
def Xc (hK:∀b,G w0 (ob Cd b (if 4611686018427387903<n then 4611686018427387903 else n)::L) (K (ptr b 0))):G w0 L (ac 68 [u64 n] K):=by
 refine WI ?_
 unfold MF
 refine ar ?_
 refine G.box λb=>?_
 have h:=hK b
 rw[Eo]at h
 exact h
def HZ [i:ae L Cd b n C](hK:G w0 L (K (u64 n))):G w0 L (ac 93 [ptr b 0] K):=by
 refine i.ro (λM hK=>?_) hK
 rw[Eo]at *
 refine Ip ?_
 unfold yl
 refine ar ?_
 exact hK
def t8 (n old now:Int):Int×Bool×Int:=if now<=old then(n,false,1)else if 4611686018427387904<=now then(n,false,7)else if n=old then(now,true,0)else(n,false,0)
def KU {e now:Int}[i:ae L Cd b n C](hK:G w0 (C (ob Cd b (t8 n e now).1)) (K (.tuple #[.bool (t8 n e now).2.1,i64 (t8 n e now).2.2]))):G w0 L (ac 102 [ptr b 0,u64 e,u64 now] K):=by
 refine i.bi (λM hK=>?_) hK
 rw[Eo]at *
 refine Kd ?_
 unfold zl
 unfold t8 at hK
 by_cases a:now<=e
 ·rw[zp a]at hK
  refine ca a ?_
  exact hK
 ·rw[zn a]at hK
  by_cases c:4611686018427387904<=now
  ·rw[zp c]at hK
   refine ca (an a c) ?_
   exact hK
  ·rw[zn c]at hK
   by_cases d:n=e
   ·rw[zp d]at hK
    refine ca (an a (an c d)) ?_
    exact hK
   ·rw[zn d]at hK
    refine ca (an a (an c d)) ?_
    exact hK
def oG {n lo hi:Int}(h:lo<=hi):(if(if hi<n then hi else n) > lo then(if hi<n then hi else n)else lo)=held n lo hi:=by
 unfold held;split<;>split<;>(try split)<;>(try split)<;>omega
def PY {s:rH}(hK:G w0 L (K (.agg (rH.cells (jR s)).toArray))):G w0 L (ac 65 [.agg (rH.cells s).toArray] K):=by
 refine YR ?_
 unfold PN
 refine G.box λp=>?_
 refine G.new λq=>ar ?_
 rw[oG (n:=s.a0) zo,oG (n:=s.F) zo,oG (n:=s.wide) zo,oG (n:=s.aB) zo]
 have e:(if(4611686018427387903:Int)<s.start then 4611686018427387903 else s.start)=(if 4611686018427387904<=s.start then 4611686018427387903 else s.start):=by grind
 rw[e]
 exact hK.sub
theorem nv {n lo hi:Int}(h:lo<=hi):held (held n lo hi) lo hi=held n lo hi:=by
 have:=jp (n:=n) h
 generalize held n lo hi=k at *
 unfold held;split<;>(try split)<;>omega
def aaX {s:rH}(hK:∀b,G w0 (ob CV b (qK s)::L) (K (ptr b 0))):G w0 L (ac 38 [.agg (rH.cells s).toArray] K):=by
 refine acp ?_
 unfold SB
 refine G.box λp=>ar ?_
 refine PY (bi ?_)
 refine Yf λh=>ar ?_
 refine Th λt=>ar ?_
 refine Xc λc=>ar ?_
 refine Xb λe=>ar ?_
 refine G.box λb=>ar ?_
 have a:=hK b
 rw[iZ]at a
 have a:G w0 (own b [i64 (held s.a0 32 256),i64 (held s.F 1 16),i64 (held s.wide 1 16),i64 (held s.aB 1 4),u64 (jR s).start,ptr h 0,ptr t 0,ptr c 0,ptr e 0,i64 0] ::
  ob mP h (List.replicate (held s.a0 32 256).toNat 0)::ob tx t (List.replicate (held s.F 1 16).toNat aa,held s.wide 1 16)::ob Cd c (jR s).start::ob mP e (List.replicate (held s.aB 1 4).toNat 0)::L) (K (ptr b 0)):=a h t c e
 have d:(jR s).a0=held s.a0 32 256:=rfl
 have i:(jR s).F=held s.F 1 16:=rfl
 have g:(jR s).wide=held s.wide 1 16:=rfl
 have j:(jR s).aB=held s.aB 1 4:=rfl
 have k:(jR s).start<=4611686018427387903:=by unfold jR;simp only;split<;>omega
 have f:(if(4611686018427387903:Int)<(jR s).start then 4611686018427387903 else(jR s).start)=(jR s).start:=zn
 rw[d,i,g,j,nv zo,nv zo,nv zo,nv zo,f]
 exact a.sub
def aaO {m:eO}{o:vV}(a:o.aN=1):bv m o=if lg o.J m.w then(m,⟨m.w.getD o.J.toNat 0,aa,false,0⟩)else(m,vK 2):=by unfold bv;simp[a]
def acn {m:eO}{o:vV}(a:o.aN=2):bv m o=if lg o.J m.w then({ m with w:=m.w.set o.J.toNat o.word },l9)else(m,vK 2):=by unfold bv;simp[a]
def ab7 {m:eO}{o:vV}(a:o.aN=3):bv m o=(m,⟨0,(tN m.l o.J).1,false,(tN m.l o.J).2⟩):=by unfold bv;simp[a]
def aaP {m:eO}{o:vV}(a:o.aN=4):bv m o=({ m with l:=(pw m.l o.J o.was o.ac).1 },⟨0,aa,(pw m.l o.J o.was o.ac).2.1,(pw m.l o.J o.was o.ac).2.2⟩):=by unfold bv;simp[a]
def aaW {m:eO}{o:vV}(a:o.aN=5):bv m o=({ m with l:=(mw m.l o.J o.ac).1 },⟨0,aa,false,(mw m.l o.J o.ac).2⟩):=by unfold bv;simp[a]
def abQ {m:eO}{o:vV}(a:o.aN=6):bv m o=(m,⟨m.n,aa,false,0⟩):=by unfold bv;simp[a]
def aaE {m:eO}{o:vV}(a:o.aN=7):bv m o=({ m with n:=(t8 m.n o.bT o.word).1 },⟨0,aa,(t8 m.n o.bT o.word).2.1,(t8 m.n o.bT o.word).2.2⟩):=by
 unfold bv t8;simp only[a];simp only[Int.reduceEq,if_true,if_false,Int.reduceNeg]
 split
 ·rfl
 ·split
  ·rfl
  ·split<;>rfl
def abH {m:eO}{o:vV}(a:o.aN=8):bv m o=if nk o.J m.s.length then(m,⟨m.s.getD o.J.toNat 0,aa,false,0⟩)else(m,vK 2):=by unfold bv;simp[a]
def ab2 {m:eO}{o:vV}(a:o.aN=9):bv m o=if nk o.J m.s.length then({ m with s:=m.s.set o.J.toNat o.word },l9)else(m,vK 2):=by unfold bv;simp[a]
set_option maxRecDepth 20000 in
set_option maxHeartbeats 4000000 in
def TY [i:ae L CV b m C](hK:G w0 (C (ob CV b (bv m o).1)) (K (.agg (ii.cells (bv m o).2).toArray))):G w0 L (ac 70 [ptr b 0,.agg (vV.cells o).toArray] K):=by
 refine i.bi (λM hK=>?_) hK
 refine UK ?_
 unfold JL
 refine G.box λp=>?_
 refine G.new λq=>?_
 refine G.new λr=>?_
 rw[acA,iZ]
 intro h t c s
 refine ar ?_
 by_cases g:o.aN=1
 ·rw[aaO g]at hK
  refine bx @g ?_
  refine L3 (xs:=m.w) (λk d B D=>?_) (λa=>?_)
  ·rw[zp (show lg o.J m.w=true by unfold lg;simp;omega),iZ,d]at hK
   simp only[Int.toNat_natCast]at hK
   refine bi ?_
   exact(hK h t c s).sub
  ·rw[zn (by rw[a];decide),iZ]at hK
   refine bi ?_
   exact(hK h t c s).sub
 by_cases f:o.aN=2
 ·rw[acn f]at hK
  refine bx @f ?_
  refine Jy (xs:=m.w) (λk d B D=>?_) (λa=>?_)
  ·rw[zp (show lg o.J m.w=true by unfold lg;simp;omega),iZ,d]at hK
   simp only[Int.toNat_natCast]at hK
   refine bi ?_
   exact(hK h t c s).sub
  ·rw[zn (by rw[a];decide),iZ]at hK
   refine bi ?_
   exact(hK h t c s).sub
 by_cases z:o.aN=3
 ·rw[ab7 z,iZ]at hK
  refine bx @z ?_
  refine GA (ls:=m.l) (bi ?_)
  exact(hK h t c s).sub
 by_cases A:o.aN=4
 ·rw[aaP A,iZ]at hK
  refine bx @A ?_
  refine IM (ls:=m.l) (bi ?_)
  exact(hK h t c s).sub
 by_cases y:o.aN=5
 ·rw[aaW y,iZ]at hK
  refine bx @y ?_
  refine DI (ls:=m.l) (bi ?_)
  exact(hK h t c s).sub
 by_cases x:o.aN=6
 ·rw[abQ x,iZ]at hK
  refine bx @x ?_
  refine HZ (n:=m.n) (bi ?_)
  exact(hK h t c s).sub
 by_cases u:o.aN=7
 ·rw[aaE u,iZ]at hK
  refine bx @u ?_
  refine KU (n:=m.n) (bi ?_)
  exact(hK h t c s).sub
 by_cases v:o.aN=8
 ·rw[abH v]at hK
  refine bx @v ?_
  refine IA (xs:=m.s) (λk d B=>?_) (λa=>?_)
  ·rw[zp (show nk o.J m.s.length=true by unfold nk;simp;omega),iZ,d]at hK
   simp only[Int.toNat_natCast]at hK
   refine bi ?_
   exact(hK h t c s).sub
  ·rw[zn (by unfold Hh at a;unfold nk;rw[a];decide),iZ]at hK
   refine bi ?_
   exact(hK h t c s).sub
 by_cases j:o.aN=9
 ·rw[ab2 j]at hK
  refine bx @j ?_
  refine GH (xs:=m.s) (λk d B=>?_) (λa=>?_)
  ·rw[zp (show nk o.J m.s.length=true by unfold nk;simp;omega),iZ,d]at hK
   simp only[Int.toNat_natCast]at hK
   refine bi ?_
   exact(hK h t c s).sub
  ·rw[zn (by unfold Hh at a;unfold nk;rw[a];decide),iZ]at hK
   refine bi ?_
   exact(hK h t c s).sub
 ·have e:bv m o=(m,vK 1):=by unfold bv;simp[g,f,z,A,y,x,u,v,j]
  rw[e,iZ]at hK
  refine bx (an @g (an @f (an @z (an @A (an @y (an @x (an @u (an @v @j)))))))) ?_
  exact(hK h t c s).sub
def Kb [i:ae L CV b m C](hK:G w0 (C (ob CV b (ag m o).1)) (K (.agg (ii.cells (ag m o).2).toArray))):G w0 L (ac 40 [ptr b 0,.agg (vV.cells o).toArray] K):=by
 refine i.bi (λM hK=>?_) hK
 refine Uv ?_
 unfold J5
 refine G.box λp=>?_
 refine G.new λq=>ar ?_
 refine TY (m:=m) (o:=o) ?_
 refine G.new λr=>ar ?_
 refine G.aU ?_
 unfold ag at hK
 by_cases a:(bv m o).2.aV=0
 ·rw[zp a,iZ]at hK
  refine ca a ?_
  rw[acA,iZ]
  intro h t c s
  refine ar ?_
  have hK:=hK h t c s
  simp only[ii.cells,a]at hK
  exact hK.sub
 ·rw[zn a]at hK
  refine ca a ?_
  exact hK.sub
def NQ (e:m.w.length<=1000000)[i:ae L CV b m C](hK:∀u,ax u [u]->G w0 (sl i9 u m.w::L) (K u)):G w0 L (ac 42 [ptr b 0] K):=by
 refine i.cb (λM hK=>?_) hK
 rw[iZ]
 intro h t c s
 refine NW ?_
 unfold Ct
 refine ar ?_
 refine NU (xs:=m.w) e λu d=>ar ?_
 have a:=hK u d
 rw[jc,iZ]at a
 exact(a h t c s).sub
end
def nI (p:List co):Prop:=p.length<=1000
structure zW (x:ig)(s:iX):Prop where
 O:x.O=0
 snd:x.bad=0->PP x s
 a6:x.af.length<=16
 fr:s.l.aH.length<=400
structure NV (x:ig)(s:iX)(R:ig×iX×Int):Prop where
 fb:(∀i∈x.prog,i.op≠23)->R=CT 401 x s
 k:R.2.1.k=s.k
 size:R.2.1.size=s.size
 ok:Xk s->Xk R.2.1
 O:R.2.2=1\/R.2.2=2\/R.2.2=3\/R.2.2=4
 a9:R.2.2=1->Nd R.2.1/\zW R.1 R.2.1
 aH:R.2.1.l.aH.length<=1000
 a6:R.1.af.length<=16
 rg:Rg x->Vg s->Rg R.1/\Vg R.2.1
 er:R.2.2=4->R.1.aV≠0
 bd:x.bad≠0->R.2.2=4/\R.1.aV=x.bad
abbrev qI:=ig->iX->ig×iX×Int
structure da (ρ:qI):Prop where
 q:∀r s,zW r s->NV r s (ρ r s)
 u:∀r s,Rg r->Vg s->Rg (ρ r s).1/\Vg (ρ r s).2.1
structure Mid (x0:ig)(s0:iX)(n:Nat)(x:ig)(s:iX):Prop where
 fb:(∀i∈x0.prog,i.op≠23)->CT n x s=CT 401 x0 s0
 prog:x.prog=x0.prog
 bad:x0.bad=0/\x.bad=0
 k:s.k=s0.k
 size:s.size=s0.size
 ok:Xk s0->Xk s
 rg:Rg x0->Vg s0->Rg x/\Vg s
section
variable {x x0:ig}{s s0:iX}{n:Nat}
def Rg.to {z:ig}(h:Rg x)(h1:z.r=x.r)(h2:z.op=x.op)(h3:z.af=x.af)(h4:z.prog=x.prog):Rg z:=⟨by rw[h1];exact h.bb,by rw[h2];exact h.b8,by rw[h3];exact h.af,by rw[h4];exact h.prog⟩
def PP.lv {t:iX}(h:PP x s)(e:t.l.aH.length<=s.l.aH.length):PP x t:=⟨h.bad,h.mt,h.K,h.dc,h.b8,h.told,h.b6,h.a6,h.left,by have:=h.aH;omega⟩
def zW.lv {t:iX}(h:zW x s)(e:t.l=s.l):zW x t:=⟨h.O,λg=>(h.snd g).lv (by rw[e];exact LT _),h.a6,by rw[e];exact h.fr⟩
def Z7 (h:zW x s)(hb:x.bad≠0):CT (n+1) x s=(x.bL x.bad,s,4)/\NV x s (x.bL x.bad,s,4):=by
 have e:∀n,CT (n+1) x s=(x.bL x.bad,s,4):=λn=>by rw[CT,zn (λg=>g h.O),zp hb]
 exact⟨e n,⟨λ_=>(e 400).symm,rfl,rfl,id,zs,λg=>(by cases g),by have:=h.fr;show s.l.aH.length<=1000;omega,h.a6,λa b=>⟨a.to rfl rfl rfl rfl,b⟩,λ_=>hb,λ_=>⟨rfl,rfl⟩⟩⟩
def Mid.bR (h:Mid x0 s0 n x s)(d:PP x s){z:ig}{e:Int}(p:e=2\/e=3\/e=4)(hd:(∀i∈x.prog,i.op≠23)->CT n x s=(z,s,e))(hi:z.af=x.af/\z.r=x.r/\z.op=x.op/\z.prog=x.prog)(o:e=4->z.aV≠0):NV x0 s0 (z,s,e):=by
 obtain⟨c,f,j,m⟩:=hi
 refine⟨λg=>?_,h.k,h.size,h.ok,.inr p,λg=>(by have g:e=1:=g;omega),by have:=d.aH;have:=d.left;show s.l.aH.length<=1000;omega,by rw[c];exact d.a6,λa b=>⟨(h.rg a b).1.to f j c m,(h.rg a b).2⟩,o,λg=>absurd h.bad.1 g⟩
 rw[<-h.fb g,hd (by rw[h.prog];exact g)]
def Mid.step (y:PP x s)(J:x.O=0)(h:Mid x0 s0 (n+1) x s)(P:x.K≠x.prog.length)(N:x.left≠0){R:ig×iX×Int}(q:DoQ x s x.bU R) :
  (R.2.2=0->R.1.O=0->PP R.1.on R.2.1/\Mid x0 s0 n R.1.on R.2.1)/\(R.2.2=0->R.1.O≠0->NV x0 s0 (R.1.on,R.2.1,R.1.O))/\(R.2.2=11->NV x0 s0 (R.1,R.2.1,1))/\(R.2.2≠0->R.2.2≠11->NV x0 s0 (R.1.bL R.2.2,R.2.1,4)):=by
 have E:=y.K
 have z:x.K.toNat<x.prog.length:=by omega
 have t:x.bU∈x.prog:=aax z
 have F:=y.left
 have H:=y.aH
 have M:=q.c6.vr.1.fr
 have c:R.2.1.l.aH.length<=1000:=by omega
 have d:Rg x0->Vg s0->Rg R.1/\Vg R.2.1:=λa b=>by
  obtain⟨f,m⟩:=h.rg a b
  exact q.rg f m (f.prog _ t)
 have D:(∀i∈x0.prog,i.op≠23)->CT 401 x0 s0=if R.2.2=0 then CT n R.1.on R.2.1 else if R.2.2=11 then(R.1,R.2.1,1)else(R.1.bL R.2.2,R.2.1,4):=λg=>by
  have I:R=CI x s:=q.fb (g _ (by rw[<-h.prog];exact t))
  rw[<-h.fb g,CT,zn (λg=>g J),zn (λg=>g h.bad.2),zn P,zn N,I]
 have w:R.2.1.k=s0.k:=q.c6.vr.1.k.trans h.k
 have v:R.2.1.size=s0.size:=q.c6.vr.1.size.trans h.size
 have u:Xk s0->Xk R.2.1:=λo=>q.c6.vr.1.ok (h.ok o)
 refine⟨λr C=>?_,λr C=>?_,λj=>?_,λr j=>?_⟩
 ·have B:=q.c6.nx r C
  have A:R.1.prog=x.prog:=B.prog
  refine⟨y.on zo q.c6.vr.1 B,⟨λg=>?_,A.trans h.prog,⟨h.bad.1,B.bad.trans h.bad.2⟩,w,v,u,λa b=>?_⟩⟩
  ·grind
  ·obtain⟨f,m⟩:=d a b
   exact⟨f.to rfl rfl rfl rfl,m⟩
 ·have L:R.1.O=3:=by
   rcases q.c6.O r with g|g
   all_goals grind
  refine⟨λg=>?_,w,v,u,?_,λg=>(by have g:R.1.O=1:=g;omega),c,q.a6,λa b=>?_,λg=>(by have g:R.1.O=4:=g;omega),λg=>absurd h.bad.1 g⟩
  ·grind[adT]
  ·grind
  ·obtain⟨f,m⟩:=d a b
   exact⟨f.to rfl rfl rfl rfl,m⟩
 ·have e:=q.c6.nd j
  have p:=q.c6.vr.2 j
  refine⟨λg=>?_,w,v,u,.inl rfl,λ_=>⟨p.1,by rw[e];exact J,λ_=>?_,q.a6,by show R.2.1.l.aH.length<=400;omega⟩,c,q.a6,d,λg=>(by cases g),λg=>absurd h.bad.1 g⟩
  ·grind
  ·show PP R.1 R.2.1
   rw[e]
   exact y.next.lv p.2
 ·refine⟨λg=>?_,w,v,u,zs,λg=>(by cases g),c,q.a6,λa b=>?_,λ_=>r,λg=>absurd h.bad.1 g⟩
  ·grind
  ·obtain⟨f,m⟩:=d a b
   exact⟨f.to rfl rfl rfl rfl,m⟩
section
open Classical
def Tf (h:zW x s):∃R,NV x s R:=by
 by_cases e:x.bad=0
 ·by_cases g:∀i∈x.prog,i.op≠23
  ·
   have j:∀{n:Nat} {y:ig} {t:iX},PP y t->y.O=0->Mid x s n y t->y.left<n->∃R,NV x s R:=λ{n}=>by
    induction n with
    |zero=>intro y t c _ _ r;have:=c.left;omega
    |succ n ih =>
     intro y t c f d r
     by_cases k:y.K=y.prog.length
     ·exact⟨_,d.bR c (z:={ y with O:=2 }) (.inl rfl) (λ_=>by rw[CT,zn (λg=>g f),zn (λg=>g d.bad.2),zp k]) ⟨rfl,rfl,rfl,rfl⟩ λg=>by cases g⟩
     by_cases p:y.left=0
     ·exact⟨_,d.bR c (z:=y.bL 6) (.inr (.inr rfl)) (λ_=>by rw[CT,zn (λg=>g f),zn (λg=>g d.bad.2),zn k,zp p]) ⟨rfl,rfl,rfl,rfl⟩ λ_=>(by decide:(6:Int)≠0)⟩
     have A:=c.K
     have m:y.bU.op≠23:=g _ (by rw[<-d.prog];exact aax zo)
     have o:DoQ y t y.bU (iDo { y with next:=y.K+1 } t y.bU):=⟨λ_=>rfl,ahn c zo f m,Z6 c.a6,λu v w=>Rg.c6 (x:={ y with next:=y.K+1 }) (u.to rfl rfl rfl rfl) v w⟩
     obtain⟨D,C,F,E⟩:=d.step c f k p o
     have B:=o.c6.left
     grind
   have c:=h.snd e
   exact j (n:=401) c h.O ⟨λ_=>rfl,rfl,⟨e,e⟩,rfl,rfl,id,λa b=>⟨a,b⟩⟩ (by have:=c.left;omega)
  ·exact⟨(x.bL 6,s,4),⟨λq=>absurd q g,rfl,rfl,id,zs,λg=>(by cases g),by have:=h.fr;show s.l.aH.length<=1000;omega,h.a6,λa b=>⟨a.to rfl rfl rfl rfl,b⟩,λ_=>(by decide:(6:Int)≠0),λq=>absurd e q⟩⟩
 ·exact⟨_,(Z7 (n:=0) h e).2⟩
noncomputable def YJ (r:ig)(s:iX):ig×iX×Int:=if h:zW r s then(Tf h).choose else(r,s,4)
def zY:∃ρ,da ρ:=⟨YJ,λr s h=>by unfold YJ;rw[dif_pos h];exact(Tf h).choose_spec,λr s a b=>by
 unfold YJ
 split
 ·rename_i h;exact(Tf h).choose_spec.rg a b
 ·exact⟨a,b⟩⟩
def ahY {R:ig×iX×Int}(h:zW x s)(e:NV x s R):∃ρ,da ρ/\ρ x s=R:=by
 obtain⟨ρ,c⟩:=zY
 refine⟨λr t=>if r=x/\t=s then R else ρ r t,⟨λr t d=>?_,λr t a b=>?_⟩,zp ⟨rfl,rfl⟩⟩
 ·split
  ·grind
  ·exact c.q r t d
 ·split
  ·rename_i g;obtain⟨rfl,rfl⟩:=g;exact e.rg a b
  ·exact c.u r t a b
end
end
section
variable {w0:bz}{L M:List bg}{K:KV}{b vp:Nat}{x:ig}{s:iX}
def UM (I:zW x s)(hK:∀R,NV x s R->G w0 (ob eY (b,vp) R.1::ob bf vp R.2.1::M) (K (i64 R.2.2))) :
  G w0 (ob eY (b,vp) x::ob bf vp s::M) (ac 167 [ptr b 0] K):=by
 refine Gi ?_
 unfold wF
 refine G.cV (σ:=Nat×ig×iX) (λz=>ob eY (b,vp) z.2.1::ob bf vp z.2.2::M) (λz=>(z.2.1=x/\z.2.2=s/\x.bad≠0)\/(PP z.2.1 z.2.2/\z.2.1.O=0/\Mid x s z.1 z.2.1 z.2.2/\z.2.1.left<z.1)\/(z.2.1.O≠0/\NV x s (z.2.1,z.2.2,z.2.1.O))) (λz=>if z.2.1.O=0 then z.1+1 else 0) (401,x,s) rfl (by
  by_cases d:x.bad=0
  ·have l:=I.snd d
   exact .inr (.inl ⟨l,I.O,⟨λ_=>rfl,rfl,⟨d,d⟩,rfl,rfl,id,λa b=>⟨a,b⟩⟩,by have:=l.left;show x.left<401;omega⟩)
  ·exact .inl ⟨rfl,rfl,d⟩) ?_
 rintro⟨k,y,t⟩ r J hJ
 simp only at r hJ ⊢
 have c:y.O=0->∀(z:ig) (B:iX),z.O≠0->NV x s (z,B,z.O)->G w0 (ob eY (b,vp) z::ob bf vp B::M) J:=λf z B r e=>hJ (k,z,B) (.inr (.inr ⟨r,e⟩)) (by rw[zn r,zp f];omega)
 rcases r with⟨rfl,rfl,d⟩|⟨l,i,D,hl⟩|⟨f,Y⟩
 ·have i:=I.O
  rw[dw]
  intro F E A m h
  refine bx (an (eq_true i) d) ?_
  refine aq b vp m y rfl h ?_
  refine z9 (vp:=vp) (x:=y) (bi ?_)
  exact(c i (y.bL y.bad) t (show(4:Int)≠0 by decide) (Z7 (n:=0) I d).2).sub
 ·obtain⟨k,rfl⟩:∃j,k=j+1:=⟨k-1,by have:=l.left;omega⟩
  have c:=c i
  have d:=D.bad.2
  have V:=l.K
  have T:=(qE l.bad).len
  have Q:=l.left
  rw[dw]
  intro F E A m h
  by_cases p:y.K=y.prog.length
  ·refine bx (an (eq_true i) (an (eq_true d) (eq_true p))) ?_
   refine aq b vp m { y with O:=2 } rfl h ?_
   exact(c { y with O:=2 } t (show(2:Int)≠0 by decide) (D.bR l (.inl rfl) (λ_=>by rw[CT,zn (λg=>g i),zn (λg=>g d),zp p]) ⟨rfl,rfl,rfl,rfl⟩ λg=>by cases g)).sub
  by_cases w:y.left=0
  ·refine bx (an (eq_true i) (an (eq_true d) (an p (eq_true w)))) ?_
   refine aq b vp m y rfl h ?_
   refine z9 (vp:=vp) (x:=y) (bi ?_)
   exact(c (y.bL 6) t (show(4:Int)≠0 by decide) (D.bR l (.inr (.inr rfl)) (λ_=>by rw[CT,zn (λg=>g i),zn (λg=>g d),zn p,zp w]) ⟨rfl,rfl,rfl,rfl⟩ λ_=>(by decide:(6:Int)≠0))).sub
  have e:iW y.prog y.K.toNat y.bU:=⟨by
   have W:y.K.toNat<y.prog.length:=by omega
   show _=some (y.prog.getD y.K.toNat ⟨0,0,0,0,0⟩)
   rw[ge,dg W];rfl⟩
  have ix:JD y.K y.K.toNat:=⟨zo⟩
  have X:IntKind.wrap .i64 (y.K+1)=y.K+1:=jL zo zo
  refine bx (an (eq_true i) (an (eq_true d) (an p (an w X)))) ?_
  refine aq b vp m { y with next:=y.K+1 } rfl h ?_
  refine G.ap (As:=[ob eY (b,vp) { y with next:=y.K+1 },ob bf vp t]) ?_
  simp only[Fn,GT]
  refine TF (x:=y) (s:=t) l zo i λR P=>?_
  have v:=P.c6.left
  simp only at v
  obtain⟨N,L,U,S⟩:=D.step l i p w P
  obtain⟨z,H,q⟩:=R
  simp only at N L U S v ⊢
  by_cases o:q=0
  ·have Z:IntKind.wrap .i64 (z.left-1)=z.left-1:=jL zo zo
   rw[dw]
   intro F E A m h
   refine bx (an (eq_true o) Z) ?_
   refine aq b vp m z.on rfl h ?_
   by_cases u:z.O=0
   ·obtain⟨a1,a2⟩:=N o u
    exact(hJ (k,z.on,H) (.inr (.inl ⟨a1,u,a2,by show z.left-1<_;omega⟩)) (by rw[zp i,zp (show z.O=0 from u)];omega)).sub
   ·exact(c z.on H u (L o u)).sub
  ·by_cases C:q=11
   ·refine bx (an o (eq_true C)) ?_
    exact(hK _ (U C)).sub
   ·refine bx (an o C) ?_
    refine z9 (vp:=vp) (x:=z) (bi ?_)
    exact(c (z.bL q) H (show(4:Int)≠0 by decide) (S o C)).sub
 ·have hK:=hK _ Y
  rw[dw]at hK ⊢
  intro F E A m h
  have hK:=hK F E A m h
  refine bx f ?_
  exact hK
end
end Go.Proofs.YtoealglbimbbmaaGreatDoor.S
namespace Go.Proofs.YtoealglbimbbmaaGreatDoor.S
open Go Go.Proofs
inductive zT where
 |none
 |fetch (f:fe)
 |ext (x:mj)
 |com (x:ct)
abbrev zT.O:zT->Int
 | .none=>0
 | .fetch f=>f.Y.O
 | .ext f=>f.Y.O
 | .com f=>f.Y.O
abbrev zT.aY:zT->Int
 | .none=>0
 | .fetch f=>f.Y.aY
 | .ext f=>f.Y.aY
 | .com f=>f.Y.aY
abbrev zT.next:zT->vV×Bool
 | .none=>(kn,false)
 | .fetch f=>dt f
 | .ext f=>gO f
 | .com f=>au f
abbrev zT.br (a:ii):zT->zT
 | .none=>.none
 | .fetch f=>.fetch (bp f a)
 | .ext f=>.ext (fa f a)
 | .com f=>.com (bk f a)
abbrev zT.ok:zT->Prop
 | .none=>False
 | .fetch _=>True
 | .ext f=>Sg f/\f.ab.length<=1000000
 | .com f=>mH f
abbrev zT.wr:zT->Bool
 | .com f=>(f.ao&&decide (f.Y.O=0))||decide (f.Y.O=2)
 |_=>false
abbrev akf:True:=by have:=@zT.wr.match_1.congr_eq_1.{0};trivial
abbrev zT.bh:zT->Bool
 | .com _=>true
 |_=>false
abbrev zT.I:zT->Int
 | .com m=>if m.ao=true then IntKind.wrap .u64 (m.aj+1)else 0
 |_=>0
structure az where
 me:Int
 s:cv
 run:Option ig
 aD:List Int
 aQ:Nat
 v:iX
 rd:List jz
 B:Int
 Z:zT
 aq:Bool
 a2:Int
 I:Int
 O:Int
 aY:Int
 aV:Int
 aO:Bool
def gi (s:cv):cv:=⟨held s.a0 32 256,held s.F 1 16,held s.wide 1 16,held s.aB 1 4,(jR ⟨s.a0,s.F,s.wide,s.aB,s.start⟩).start,held s.aR 0 4,held s.bP 0 96,held s.fuel 0 400⟩
def Je (s:cv):gi (gi s)=gi s:=by grind[gi,jR,nv]
abbrev uX (me:Int)(s:cv):az :=
 ⟨me,gi s,none,[],0,⟨(gi s).a0.toNat,[],⟨(gi s).bP,⟨[],[]⟩,[]⟩,0⟩,[],0,.none,false,0,0,0,-1,0,false⟩
abbrev om (me:Int)(s:cv)(p:List co):az:={ uX me s with run:=some (KM p (gi s).fuel) }
abbrev lm (me:Int)(s:cv)(bs:List Int):az:={ uX me s with aD:=bs }
abbrev az.wr (x:az):Bool:=!decide (x.B=8)&&x.Z.wr
abbrev az.done (x:az):Bool:=decide ((if x.B=8 then x.O else 0)=2)||x.wr
abbrev az.bc (x:az):List Int:=if x.done then(match x.run with|none=>x.aD|some _=>x.v.l.aH)else []
abbrev az.af (x:az):List pT:=match x.run with|none=>[]|some r=>r.af
def B2 (x:az)(s:ByteArray):Prop:=x.done=true->∀r,x.run=some r->aib r.af s
def afI (x:az):ByteArray:=match x.run with|none=>⟨#[]⟩|some r=>R5 r.af
def Va {x:az}:B2 x (afI x):=λ_ r hr _ _ _=>by unfold afI;rw[hr]
abbrev ip (x:az)(e er b:Int):az:={ x with O:=e,aV:=er,aY:=b,B:=7 }
abbrev rB (x:az)(c:Int):az:={ x with Z:=.fetch (uq x.me c (ie c x.s.F x.s.wide) x.s.aR x.I),B:=3 }
abbrev uI (x:az)(st:Int):az:={ x with Z:=.ext (HO x.me x.s.aR x.rd),B:=st }
def j7:List Int->Nat->iX->Nat×iX×Int×Int
 | [],g,s=>(g,s,2,0)
 |b::l,g,s=>if(v9 s b).2=0 then j7 l (g+1) (v9 s b).1 else if(v9 s b).2=11 then(g,(v9 s b).1,1,0)else(g,(v9 s b).1,4,(v9 s b).2)
def iu (ρ:qI)(x:az):az×Int×Int:=match x.run with
 |some r=>({ x with run:=some (ρ r x.v).1,v:=(ρ r x.v).2.1 },(ρ r x.v).2.2,(ρ r x.v).1.aV)
 |none=>({ x with aQ:=(j7 (x.aD.drop x.aQ) x.aQ x.v).1,v:=(j7 (x.aD.drop x.aQ) x.aQ x.v).2.1 },(j7 (x.aD.drop x.aQ) x.aQ x.v).2.2.1,(j7 (x.aD.drop x.aQ) x.aQ x.v).2.2.2)
def j0 (q:az×Int×Int):az :=
 if q.2.1=1 then rB q.1 q.1.v.a9
 else if q.2.1=3 then uI { q.1 with aO:=true } 5
 else if q.2.1=4 then ip q.1 4 q.2.2 (-1)
 else if q.1.v.l.cells=[]then ip q.1 2 0 (-1)
 else { q.1 with Z:=.com (ov q.1.me q.1.s.aR q.1.I q.1.rd q.1.v.l.cells (j4 (gh q.1.v.l.cells q.1.s.F q.1.s.wide) 16)),B:=6 }
def iq (ρ:qI)(x:az):az:=j0 (iu ρ x)
structure O1 (x:az):Prop where
 run:∀r,x.run=some r->zW r x.v
 aD:x.aD.length<=1000000/\x.aQ<=x.aD.length
 com:x.Z.bh=false
 rd:x.rd.length<=1000
 cj:Xk x.v
abbrev lz (x:az)(f:fe):az:={ x with rd:=oF 16 x.rd ⟨f.N,f.ac.D⟩ }
abbrev ju (x:az)(f:fe):az:={ lz x f with v:=(uu x.v x.v.a9 f.word).1 }
def cq (ρ:qI)(x:az)(f:fe):az :=
 if f.Y.O=6 then uI x 4
 else if rK 16 x.rd ⟨f.N,f.ac.D⟩=0 then iq ρ (ju x f)
 else if rK 16 x.rd ⟨f.N,f.ac.D⟩=14 then ip (lz x f) 5 0 (-1)
 else ip (lz x f) 4 (rK 16 x.rd ⟨f.N,f.ac.D⟩) (-1)
structure WZ (x:az)(f:fe):Prop where
 O:f.Y.O=6\/f.Y.O=2
 rd:x.rd.length<=1000
 cY:x.v.k.length<=1000
 cM:f.Y.O=2->rK 16 x.rd ⟨f.N,f.ac.D⟩=0->O1 (ju x f)
abbrev nr (ρ:qI)(x:az):az:=match x.Z with
 | .none=>x
 | .fetch f=>cq ρ x f
 | .ext e=>if x.B=4 then rB { x with I:=e.I } x.v.a9 else ip { x with I:=e.I } 3 0 (-1)
 | .com m=>ip x m.Y.O m.Y.aV (-1)
abbrev gZ (x:az):az:=if x.wr=true then { x with I:=x.Z.I }else x
abbrev bu (ρ:qI)(x:az):az:=gZ (if x.Z.O=0 then x else if x.Z.O=5 then ip x 5 0 x.Z.aY else nr ρ x)
abbrev ah (ρ:qI)(x:az)(a:ii):az :=
 if x.B=8 then x
 else if x.B=0 then { x with B:=1 }
 else if x.B=1 then { x with aq:=true,a2:=a.word,I:=a.word,B:=2 }
 else if x.B=2 then iq ρ x
 else if x.B=7 then { x with B:=8 }
 else bu ρ { x with Z:=x.Z.br a }
abbrev ak (x:az):vV×Bool :=
 if x.B=0 then(⟨9,x.me,0,1,aa,aa⟩,true)
 else if x.B=1 then(⟨6,0,0,0,aa,aa⟩,true)
 else if x.B=2 then(⟨9,x.me,0,IntKind.wrap .u64 (x.I+1),aa,aa⟩,true)
 else if x.B=7 then(⟨9,x.me,0,0,aa,aa⟩,true)
 else if x.B=8 then(kn,false)
 else x.Z.next
structure XO (x:az):Prop where
 ok:x.Z.ok
 fetch:∀f,x.Z=.fetch f->x.B=3/\(f.Y.O=0\/f.Y.O=5\/WZ x f)
 ext:∀e,x.Z=.ext e->(x.B=4\/x.B=5)/\(e.Y.O=0\/e.Y.O=5\/e.Y.O=2)
 com:∀m,x.Z=.com m->x.B=6
structure tA (x:az)(a:ii):Prop where
 aV:a.aV=0
 cM:x.B=2->O1 x
 Z:x.B≠0->x.B≠1->x.B≠2->x.B≠7->x.B≠8->x.Z.ok/\XO { x with Z:=x.Z.br a }
structure Ta where
 I:Int
 done:Bool
 cells:List ay
 aP:Int
 ch:Int
 a5:List ay
 a2:Int
structure bm where
 me:Int
 s:cv
 aw:List (List co)
 aI:Int
 B:Int
 aE:Bool
 aF:List rM
 aM:Int
 a7:Int
 aj:Option az
 aP:Int
 bD:Bool
 aA:List Ta
 aX:List Q6
 aC:List rM
 aK:List Int
 aY:Int
 cl:Int
 c2:Bool
 aS:Int
abbrev j6 (x:az)(born ended:Int):Ta:=⟨x.I,x.done,if x.done then x.v.l.cells else [],born,ended,x.v.k,x.a2⟩
def cw (x:bm):bm:=match x.aw[x.aI.toNat]? with
 |some p=>{ x with aP:=0,bD:=false,aj:=some (if x.aE=true then lm x.me x.s (x.aF.map (·.J))else om x.me x.s p),B:=1 }
 |none=>{ x with aP:=0,bD:=false,aj:=none,B:=6 }
structure m7 (x:bm):Prop where
 lo:0<=x.aI
 hi:x.aI<=x.aw.length
 cg:∀p∈x.aw,nI p
 aF:x.aF.length<=100000
def rr:Nat->Int
 |0=>1
 |n+1=>if 8<2*rr n then 8 else 2*rr n
def Vz:∀n:Nat,1<=rr n/\rr n<=8
 |0=>by simp[rr]
 |n+1=>by have:=Vz n;unfold rr;split<;>omega
def HE (c:Int):Int:=if 8<c then 8 else c
abbrev nK (conf draw:Int):Int:=draw.tmod (rr (HE conf).toNat+1)
abbrev lN (x:bm)(draw:Int):bm:=if nK x.a7 draw=0 then cw { x with aS:=0,B:=3 }else { x with aS:=nK x.a7 draw,B:=3 }
abbrev gK (x:bm):bm:=if x.B=3 then(if x.aS=1 then cw { x with aS:=0 }else { x with aS:=x.aS-1 })else x
abbrev kW (x:bm):bm:=cw { x with aI:=x.aI+1,aE:=false,aF:=[],aM:=0,a7:=0 }
abbrev pC (x:bm)(a:ii)(draw:Int):bm:=if a.aV=0/\a.word≠0/\(x.c2=false\/a.word=x.cl)then { x with c2:=true,cl:=a.word }else lN x draw
abbrev jb (x:bm):List Int:=if(x.aK.length:Int)=x.me then x.aK++[0]else x.aK
def lu (x:bm):bm :=
 if((jb x).length:Int)<x.s.aB then { x with aK:=jb x }
 else if x.aC.filter (λr=>iU (jb x) r.I)=[]then kW { x with aK:=jb x,aC:=x.aC.filter λr=>!iU (jb x) r.I }
 else cw { x with aK:=jb x,aC:=x.aC.filter (λr=>!iU (jb x) r.I),aE:=true,aF:=x.aC.filter (λr=>iU (jb x) r.I),aM:=0,a7:=0 }
abbrev yX (x:bm):bm:=if x.aC=[]then kW x else lu { x with B:=5,aK:=[] }
abbrev tC (x:bm)(since:Int):bm:=lu { x with aK:=x.aK++[since] }
abbrev Br (x:bm)(e:Int):bm:=if e=4 then kW { x with aC:=x.aC++x.aF }else kW x
def i7 (x:bm)(a:az)(draw pick:Int)(sl:ByteArray):bm :=
 if a.O=5 then(if 0<=a.aY/\a.aY<x.s.aB then { x with aA:=x.aA++[j6 a x.aP pick],aM:=IntKind.wrap .i64 (x.aM+1),a7:=IntKind.wrap .i64 (x.a7+1),B:=2,aY:=a.aY,c2:=false }else lN { x with aA:=x.aA++[j6 a x.aP pick],aM:=IntKind.wrap .i64 (x.aM+1),a7:=IntKind.wrap .i64 (x.a7+1) } draw)
 else if a.O=3 then(if x.bD=true then cw { x with aA:=x.aA++[j6 a x.aP pick],aM:=IntKind.wrap .i64 (x.aM+1) }else { x with aA:=x.aA++[j6 a x.aP pick],aM:=IntKind.wrap .i64 (x.aM+1),B:=4 })
 else if x.aE=true then Br { x with aA:=x.aA++[j6 a x.aP pick],aM:=IntKind.wrap .i64 (x.aM+1) } a.O
 else yX { x with aA:=x.aA++[j6 a x.aP pick],aM:=IntKind.wrap .i64 (x.aM+1),aX:=x.aX++[⟨a.O,a.aV,sl,a.I⟩],aC:=x.aC++a.bc.map λn=>⟨n,a.I⟩ }
abbrev ai (x:bm):vV×Bool :=
 if x.B=1 then(match x.aj with|some a=>ak a|none=>(kn,false))
 else if x.B=2 then(⟨8,x.aY,0,0,aa,aa⟩,true)
 else if x.B=5 then(⟨8,x.aK.length,0,0,aa,aa⟩,true)
 else(kn,false)
abbrev ml (x:bm)(a a':az)(draw pick:Int)(sl:ByteArray):bm :=
 if a'.B=8/\a'.O≠0 then i7 { x with aj:=some a',aP:=if a'.aq&&!a.aq then pick else x.aP } a' draw pick sl else { x with aj:=some a',aP:=if a'.aq&&!a.aq then pick else x.aP }
abbrev thrTell (ρ:qI)(x:bm)(a:ii)(draw pick:Int)(sl:ByteArray):bm :=
 if x.B=1 then(match x.aj with|some at_=>ml x at_ (ah ρ at_ a) draw pick sl|none=>x)
 else if x.B=2 then pC x a draw
 else if x.B=5 then tC x (if a.aV=0 then a.word else 0)else x
structure LP (a:az):Prop where
 e7:a.B=8
 O:a.O≠0
 cY:a.v.k.length<=1000
 cells:a.v.l.cells.length<=1000
 aH:a.done=true->a.v.l.aH.length<=1000
 aD:a.aD.length<=100000
 af:a.done=true->KA a.af
structure Pz (x:bm)(a:ii):Prop where
 aw:m7 x
 a6:x.aw.length<=1000000
 aA:x.aA.length<=1000000
 aX:x.aX.length<=1000000
 aC:x.aC.length+x.aF.length<=80000
 aK:x.B=5->x.aK.length<=4/\0<=x.me/\x.s.aB<=4
 run:x.B=1->x.aI<x.aw.length/\x.s.aB<=4/\0<=x.me/\∃at_,x.aj=some at_/\tA at_ a/\∀ρ,da ρ->(ah ρ at_ a).B=8->LP (ah ρ at_ a)/\(x.aE=false->(ah ρ at_ a).bc.length<=1000)
 look:x.B=5->x.aI<x.aw.length
abbrev MZ (l:List jz)(s ver:Int):Bool:=l.any λz=>decide (z.N=s)&&!decide (z.D=ver)
def iO (x:bm)(s ver:Int):bm:=match x.aj with
 |none=>x
 |some a=>if MZ a.rd s ver=true then(if x.B=4 then cw x else if x.B=1/\(!decide (a.B=8)&&a.aO)=true then { x with bD:=true }else x)else x
abbrev qQ (me:Int)(s:cv)(jobs:List (List co)):bm:=kW ⟨me,gi s,jobs,-1,0,false,[],0,0,none,0,false,[],[],[],[],0,0,false,0⟩
structure eU where
 s:cv
 mem:eO
 ad:List bm
 au:Int
 cK:vV
 cP:Bool
def mU (i:Nat)(s ver:Int)(k:Nat)(l:List bm):List bm:=l.mapIdx λj u=>if j<k/\j≠i then iO u s ver else u
def bw (ρ:qI)(x:eU)(i:Nat)(t:bm)(draw:Int)(sl:ByteArray):eU:={ x with mem:=(ag x.mem (ai t).1).1,ad:=if(ai t).1.aN=5 then mU i (ai t).1.J (ai t).1.ac.D x.ad.length (x.ad.set i (thrTell ρ t (ag x.mem (ai t).1).2 draw (x.au+1) sl))else x.ad.set i (thrTell ρ t (ag x.mem (ai t).1).2 draw (x.au+1) sl),au:=x.au+1,cK:=(ai t).1,cP:=true }
abbrev kz (x:eU)(i:Nat)(t:bm):eU:={ x with ad:=x.ad.set i (gK t),au:=x.au+1,cK:=(ai t).1,cP:=false }
structure aem (x:eU)(i:Nat)(t:bm):Prop where
 aG:x.ad[i]? = some t
 a6:x.ad.length<=4
 au:0<=x.au/\x.au<1000000000
 run:t.B=1->∃a,t.aj=some a/\(a.B≠0->a.B≠1->a.B≠2->a.B≠7->a.B≠8->a.Z.ok)
 aK:t.B=5->t.aK.length<=4
 aw:m7 t
 aS:(ai t).2=false->t.B=3->1<=t.aS/\t.aS<=100
 dK:(ai t).2=true->Pz t (ag x.mem (ai t).1).2
 db:∀k u,x.ad[k]? = some u->k≠i->m7 u/\∀a,u.aj=some a->a.rd.length<=1000
abbrev tM (m:eO)(k:Nat):eO:=if k<=5 then m else(ag m ⟨2,5,0,14,aa,aa⟩).1
abbrev eS (s:cv)(rows:Nat):cv:=gi { s with aB:=rows }
abbrev cv.bf (s:cv):rH:=⟨s.a0,s.F,s.wide,s.aB,s.start⟩
def l8 (s:cv):Nat->List (List (List co))->List bm
 |_,[]=>[]
 |i,r::l=>qQ i s r::l8 s (i+1) l
abbrev gy (s:cv)(rows:List (List (List co))):eU :=
 ⟨eS s rows.length,tM (qK (eS s rows.length).bf) 6,l8 (eS s rows.length) 0 rows,0,⟨0,0,0,0,⟨0,false,0⟩,⟨0,false,0⟩⟩,false⟩
abbrev kD (t:bm):List Ta:=t.aA++(if t.B=1 then(match t.aj with|some a=>if a.aq=true then [j6 a t.aP 0]else []|none=>[])else [])
abbrev aeq (x:eU):List Ta:=x.ad.flatMap kD
end Go.Proofs.YtoealglbimbbmaaGreatDoor.S
