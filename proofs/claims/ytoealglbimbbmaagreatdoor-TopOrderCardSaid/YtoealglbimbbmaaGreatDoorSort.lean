import Derived.Test.YtoealglbimbbmaaGreatDoorBook
import Derived.Shelf.Sort.Plain
import Derived.Shelf.Slices.In.SortNone
import Derived.Shelf.Slices.CompactI
namespace Go.Proofs
open Go.Shelf
def YtoealglbimbbmaaGreatDoor.lays189_ren : Go.Shelf.Ren := ⟨fun | 189 => 204 | 125 => 236 | 257 => 235 | 128 => 282 | 129 => 283 | 294 => 273 | 295 => 274 | 296 => 275 | 297 => 276 | 298 => 277 | 299 => 278 | 216 => 279 | 300 => 280 | 301 => 281 | 328 => 339 | 329 => 340 | 330 => 341 | 331 => 342 | 332 => 343 | 215 => 344 | 343 => 369 | n => n, fun | 28 => 88 | 3 => 3 | 46 => 93 | 0 => 0 | 51 => 373 | 53 => 22 | 4 => 4 | 183 => 367 | 182 => 366 | 131 => 331 | 5 => 5 | 9 => 9 | 218 => 407 | 222 => 410 | 228 => 429 | 229 => 386 | n => n, fun | n => n⟩
theorem YtoealglbimbbmaaGreatDoor.lays189 : Go.Proofs.Lays.n189 Tryz.prog YtoealglbimbbmaaGreatDoor.lays189_ren := {
  mixed := by kernel_rfl
  f125 := Tryz.func236.trans (congrArg some (by kernel_rfl))
  f128 := Tryz.func282.trans (congrArg some (by kernel_rfl))
  f129 := Tryz.func283.trans (congrArg some (by kernel_rfl))
  f189 := Tryz.func204.trans (congrArg some (by kernel_rfl))
  f215 := Tryz.func344.trans (congrArg some (by kernel_rfl))
  f216 := Tryz.func279.trans (congrArg some (by kernel_rfl))
  f257 := Tryz.func235.trans (congrArg some (by kernel_rfl))
  f294 := Tryz.func273.trans (congrArg some (by kernel_rfl))
  f295 := Tryz.func274.trans (congrArg some (by kernel_rfl))
  f296 := Tryz.func275.trans (congrArg some (by kernel_rfl))
  f297 := Tryz.func276.trans (congrArg some (by kernel_rfl))
  f298 := Tryz.func277.trans (congrArg some (by kernel_rfl))
  f299 := Tryz.func278.trans (congrArg some (by kernel_rfl))
  f300 := Tryz.func280.trans (congrArg some (by kernel_rfl))
  f301 := Tryz.func281.trans (congrArg some (by kernel_rfl))
  f328 := Tryz.func339.trans (congrArg some (by kernel_rfl))
  f329 := Tryz.func340.trans (congrArg some (by kernel_rfl))
  f330 := Tryz.func341.trans (congrArg some (by kernel_rfl))
  f331 := Tryz.func342.trans (congrArg some (by kernel_rfl))
  f332 := Tryz.func343.trans (congrArg some (by kernel_rfl))
  f343 := Tryz.func369.trans (congrArg some (by kernel_rfl))
  t0 := Tryz.underlying0
  a0 := Tryz.isAgg0
  z0 := Tryz.sizeOf0
  v0 := Tryz.zeroValue0
  t3 := Tryz.underlying3
  a3 := Tryz.isAgg3
  z3 := Tryz.sizeOf3
  v3 := Tryz.zeroValue3
  t4 := Tryz.underlying4
  a4 := Tryz.isAgg4
  z4 := Tryz.sizeOf4
  v4 := Tryz.zeroValue4
  t5 := Tryz.underlying5
  a5 := Tryz.isAgg5
  z5 := Tryz.sizeOf5
  v5 := Tryz.zeroValue5
  t9 := Tryz.underlying9
  a9 := Tryz.isAgg9
  z9 := Tryz.sizeOf9
  v9 := Tryz.zeroValue9
  t28 := Tryz.underlying88
  a28 := Tryz.isAgg88
  z28 := Tryz.sizeOf88
  v28 := Tryz.zeroValue88
  t46 := Tryz.underlying93
  a46 := Tryz.isAgg93
  z46 := Tryz.sizeOf93
  v46 := Tryz.zeroValue93
  t51 := Tryz.underlying373
  a51 := Tryz.isAgg373
  z51 := Tryz.sizeOf373
  v51 := Tryz.zeroValue373
  t53 := Tryz.underlying22
  a53 := Tryz.isAgg22
  z53 := Tryz.sizeOf22
  v53 := Tryz.zeroValue22
  t131 := Tryz.underlying331
  a131 := Tryz.isAgg331
  z131 := Tryz.sizeOf331
  v131 := Tryz.zeroValue331
  t182 := Tryz.underlying366
  a182 := Tryz.isAgg366
  z182 := Tryz.sizeOf366
  v182 := Tryz.zeroValue366
  t183 := Tryz.underlying367
  a183 := Tryz.isAgg367
  z183 := Tryz.sizeOf367
  v183 := Tryz.zeroValue367
  t218 := Tryz.underlying407
  a218 := Tryz.isAgg407
  z218 := Tryz.sizeOf407
  v218 := Tryz.zeroValue407
  t222 := Tryz.underlying410
  a222 := Tryz.isAgg410
  z222 := Tryz.sizeOf410
  v222 := Tryz.zeroValue410
  t228 := Tryz.underlying429
  a228 := Tryz.isAgg429
  z228 := Tryz.sizeOf429
  v228 := Tryz.zeroValue429
  t229 := Tryz.underlying386
  a229 := Tryz.isAgg386
  z229 := Tryz.sizeOf386
  v229 := Tryz.zeroValue386 }
def YtoealglbimbbmaaGreatDoor.lays2_20_ren : Go.Shelf.Ren := ⟨fun | 20 => 205 | n => n, fun | 22 => 88 | 3 => 3 | 4 => 4 | 0 => 0 | n => n, fun | n => n⟩
theorem YtoealglbimbbmaaGreatDoor.lays2_20 : Go.Proofs.Lays2.n20 Tryz.prog YtoealglbimbbmaaGreatDoor.lays2_20_ren := {
  mixed := by kernel_rfl
  f20 := Tryz.func205.trans (congrArg some (by kernel_rfl))
  t0 := Tryz.underlying0
  a0 := Tryz.isAgg0
  z0 := Tryz.sizeOf0
  v0 := Tryz.zeroValue0
  t3 := Tryz.underlying3
  a3 := Tryz.isAgg3
  z3 := Tryz.sizeOf3
  v3 := Tryz.zeroValue3
  t4 := Tryz.underlying4
  a4 := Tryz.isAgg4
  z4 := Tryz.sizeOf4
  v4 := Tryz.zeroValue4
  t22 := Tryz.underlying88
  a22 := Tryz.isAgg88
  z22 := Tryz.sizeOf88
  v22 := Tryz.zeroValue88
  i3 := by kernel_rfl }
end Go.Proofs
namespace Go.Proofs.YtoealglbimbbmaaGreatDoor.S
open Go Go.Proofs Go.Sort
set_option linter.unusedVariables false
set_option linter.unusedSimpArgs false
section
variable {w0:bh}{L M:List ay}{K:KV}{C:ay→List ay}{w:World}
theorem St.ahead (H:St w0 L w):∀n,St w0 L (Sort.ahead w n)
 | 0=>H
 | n+1=>by rw [←ahead_drew];exact(St.ahead H n).drew
theorem St.grow (H:St w0 L w)(os:Array Obj):St w0 L (Sort.grow w os):=by
 obtain⟨h,hs,hd⟩:=H
 have old:∀k,k<w.heap.size→(Sort.grow w os).heap[k]? = w.heap[k]?:=fun k hk=>heap_grow_old _ _ hk
 have hsz:w.heap.size≤(Sort.grow w os).heap.size:=by simp [Sort.grow]
 refine⟨h,hs,⟨hd.step.os,hd.step.tape,hd.step.output,Nat.le_trans hd.step.size hsz,fun k hk hn=>?_⟩,fun b cs hb=>?_,fun b o hb=>?_,Nat.le_trans hd.min hsz⟩
 ·rw [old k (Nat.lt_of_lt_of_le hk hd.step.size)];exact hd.step.block k hk hn
 ·obtain⟨h1,h2,h3⟩:=hd.cell b cs hb
  have hb2:=old b (tY h2)
  exact⟨h1,by unfold mem at h2 ⊢;rw [hb2];exact h2,by unfold opn at h3 ⊢;rw [hb2];exact h3⟩
 ·obtain⟨h1,h2⟩:=hd.kept b o hb
  exact⟨by rw [old b (Array.getElem?_eq_some_iff.1 h1).1];exact h1,h2⟩
theorem FW {w:World}{b:Nat}{cs:List Value}(d:Array Int)(h:mem w b=some cs):putRow (Value.int .i64) w b 0 d=put w b (putCells (Value.int .i64) 0 d cs.toArray).toList:=by
 unfold putRow mapBlock put
 congr 1
 apply Array.ext_getElem?
 intro j
 simp only [Array.getElem?_modify]
 split
 ·rename_i e
  subst e
  unfold mem at h
  cases ho:w.heap[b]? with
  | none=>rfl
  | some o =>
   rw [ho] at h
   cases o with
   | cells c T z =>
    simp only [Option.some.injEq] at h
    subst h
    simp [onCells]
   | _=>simp at h
 ·rfl
theorem yI {zs ts:List Int}{rest:List Value}(hl:ts.length=zs.length):(putCells (Value.int .i64) 0 ts.toArray (zs.flatMap bg.enc++rest).toArray).toList=ts.flatMap bg.enc++rest:=by
 have e:∀xs:List Int,xs.flatMap bg.enc=xs.map (Value.int .i64):=fun xs=>by
  induction xs with
  | nil=>rfl
  | cons x xs ih=>simp [ih]
 rw [e,e]
 apply List.ext_getElem?
 intro j
 simp only [putCells,Array.getElem?_toList,Array.getElem?_mapIdx,List.getElem?_toArray,Nat.zero_le,true_and,Nat.zero_add,Nat.sub_zero,List.size_toArray]
 rcases Nat.lt_or_ge j ts.length with hj | hj
 ·rw [List.getElem?_append_left (by simpa using (by omega:j<zs.length)),List.getElem?_append_left (by simpa using hj)]
  simp [hj,show j<zs.length by omega]
 ·rw [List.getElem?_append_right (by simp;omega),List.getElem?_append_right (by simp;omega)]
  simp only [List.length_map,hl]
  cases rest[j-zs.length]? with
  | none=>rfl
  | some x=>simp;omega
theorem vA {v:Value}{zs:List Int}[i:oL L v bg zs C](hl:zs.length≤1000000)(hK:G w0 (C (sl bg v (zs.mergeSort fun x y=>decide (x≤y)))) (K (.tuple #[]))):G w0 L (CP Tryz.prog Yv [v] K):=by
 have known:∃fn,Tryz.prog.funcs[Yv]? = some fn∧fn.body.isNone=false∧(fn.name == "runtime.NumGoroutine")=false:=⟨_,Tryz.func204,by kernel_rfl,by kernel_rfl⟩
 obtain⟨M,e1,e2⟩:=oo (w0:=w0) i.sel
 intro w H
 have H1:=(e1 w).1 H
 rcases H1.sl_cases with ⟨rfl,rfl,H2⟩ | ⟨c,cap,rest,rfl,h2,h3,H2⟩
 ·refine⟨known,(Any.slices_Sort_int_none YtoealglbimbbmaaGreatDoor.lays189 none 0 w).mono ?_⟩
  rintro e w' ⟨rfl,rfl⟩
  exact hK _ ((e2 _ _).2 (by simpa using H1))
 ·have hm:=H2.own_mem
  have hH:Go.Sort.Holds (Value.int .i64) w c 0 zs.toArray:=fun j hj=>by
   have hj':j<zs.length:=by simpa using hj
   refine⟨?_,?_⟩
   ·rw [mo hm.2.1]
    have:=sN bg rest zs j zs[j] (List.getElem?_eq_getElem hj')
    have h0:(((zs.flatMap bg.enc++rest).drop (j*1)).take 1)[0]? = some (i64 zs[j]):=by rw [show (List.drop (j*1) (zs.flatMap bg.enc++rest)).take 1=[i64 zs[j]] from this];rfl
    rw [List.getElem?_take] at h0
    simpa [hj'] using h0
   ·have ho:=hm.2.2
    unfold opn at ho
    unfold World.frozen?
    split at ho
    ·rename_i cc T z hz
     simp [hz] at ho ⊢
     simp [ho]
    ·cases ho
  refine⟨known,(Any.slices_Sort_int YtoealglbimbbmaaGreatDoor.lays189 c 0 cap zs w hH (tY hm.2.1) (by omega)).mono ?_⟩
  rintro e w' ⟨rfl,n,os,rfl⟩
  have hts:(zs.mergeSort fun x y=>decide (x≤y)).length=zs.length:=List.length_mergeSort _
  have H3:=H2.ahead n
  have hm3:=H3.own_mem.2.1
  rw [FW _ hm3,yI hts]
  have H4:=(H3.own_put (cs':=(zs.mergeSort fun x y=>decide (x≤y)).flatMap bg.enc++rest)).grow os
  have H5:=H4.sl_mk (E:=bg) (cap:=cap) (by omega) (by rw [hts];exact h3)
  rw [hts] at H5
  exact hK _ ((e2 _ _).2 H5)
theorem L1 {c:Nat}{zs:List Int}{rest:List Value}(hm:mem w c=some (zs.flatMap bg.enc++rest))(ho:opn w c=true):Go.Sort.Holds (Value.int .i64) w c 0 zs.toArray:=fun j hj=>by
 have hj':j<zs.length:=by simpa using hj
 refine⟨?_,?_⟩
 ·rw [mo hm]
  have:=sN bg rest zs j zs[j] (List.getElem?_eq_getElem hj')
  have h0:(((zs.flatMap bg.enc++rest).drop (j*1)).take 1)[0]? = some (i64 zs[j]):=by rw [show (List.drop (j*1) (zs.flatMap bg.enc++rest)).take 1=[i64 zs[j]] from this];rfl
  rw [List.getElem?_take] at h0
  simpa [hj'] using h0
 ·unfold opn at ho
  unfold World.frozen?
  split at ho
  ·rename_i cc T z hz
   simp [hz] at ho ⊢
   simp [ho]
  ·cases ho
theorem Lu (zs:List Int):(Lib.compact zs).length≤zs.length:=by
 unfold Lib.compact Lib.compactUpTo
 rw [List.length_map]
 exact Nat.le_trans (List.length_filter_le _ _) (by simp)
theorem rT {v:Value}{zs:List Int}[i:oL L v bg zs C](hl:zs.length≤1000000)(hK:∀u,ar u [u]→G w0 (C (sl bg u (Lib.compact zs))) (K u)):G w0 L (CP Tryz.prog Yw [v] K):=by
 have known:∃fn,Tryz.prog.funcs[Yw]? = some fn∧fn.body.isNone=false∧(fn.name == "runtime.NumGoroutine")=false:=⟨_,Tryz.func205,by kernel_rfl,by kernel_rfl⟩
 obtain⟨M,e1,e2⟩:=oo (w0:=w0) i.sel
 intro w H
 have H1:=(e1 w).1 H
 rcases H1.sl_cases with ⟨rfl,rfl,H2⟩ | ⟨c,cap,rest,rfl,h2,h3,H2⟩
 ·refine⟨known,(Any.slices_Compact_int_empty YtoealglbimbbmaaGreatDoor.lays2_20 none 0 w).mono ?_⟩
  rintro e w' ⟨rfl,rfl⟩
  exact hK _ be _ ((e2 _ _).2 (by simpa [Lib.compact,Lib.compactUpTo] using H1))
 ·have hm:=H2.own_mem
  refine⟨known,(Any.slices_Compact_int YtoealglbimbbmaaGreatDoor.lays2_20 c 0 cap zs w (L1 hm.2.1 hm.2.2) (by omega) h2).mono ?_⟩
  rintro e w' ⟨rfl,n,rfl⟩
  have hle:=Lu zs
  have H3:=H2.ahead n
  have hm3:=H3.own_mem.2.1
  rw [FW _ hm3,yI (by simp;omega),List.flatMap_append,List.append_assoc]
  have H4:=H3.own_put (cs':=(Lib.compact zs).flatMap bg.enc++((List.replicate (zs.length-(Lib.compact zs).length) (0:Int)).flatMap bg.enc++rest))
  have H5:=H4.sl_mk (E:=bg) (cap:=cap) (by omega) (by
   rw [List.length_append,jC,h3,List.length_replicate]
   show (zs.length-(Lib.compact zs).length)*1+(cap-zs.length)*1=(cap-(Lib.compact zs).length)*1
   omega)
  exact hK _ be _ ((e2 _ _).2 H5)
end
end Go.Proofs.YtoealglbimbbmaaGreatDoor.S
