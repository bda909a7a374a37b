import Derived.Test.YtoealglbimbbmaaGreatDoorOInt
import Derived.Shelf.Strconv.Itoa1
import Derived.Shelf.Strconv.Itoa2
import Derived.Lib.ItoaMem
import Derived.Shelf.Strings.OnBuilder
namespace Go.Proofs
open Go.Shelf
def YtoealglbimbbmaaGreatDoor.lays283_ren : Go.Shelf.Ren := ⟨fun | 283 => 284 | n => n, fun | 3 => 3 | 9 => 9 | 4 => 4 | n => n, fun | n => n⟩
theorem YtoealglbimbbmaaGreatDoor.lays283 : Go.Proofs.Lays.n283 Tryz.prog YtoealglbimbbmaaGreatDoor.lays283_ren := {
  mixed := by kernel_rfl
  f283 := Tryz.func284.trans (congrArg some (by kernel_rfl))
  t3 := Tryz.underlying3
  a3 := Tryz.isAgg3
  z3 := Tryz.sizeOf3
  v3 := Tryz.zeroValue3
  t4 := Tryz.underlying4
  a4 := Tryz.isAgg4
  z4 := Tryz.sizeOf4
  v4 := Tryz.zeroValue4
  t9 := Tryz.underlying9
  a9 := Tryz.isAgg9
  z9 := Tryz.sizeOf9
  v9 := Tryz.zeroValue9 }
def YtoealglbimbbmaaGreatDoor.laysM284_ren : Go.Shelf.Ren := ⟨fun | 284 => 285 | 129 => 283 | 317 => 345 | 318 => 346 | n => n, fun | 53 => 22 | 3 => 3 | 212 => 413 | 0 => 0 | 4 => 4 | 46 => 93 | 5 => 5 | 9 => 9 | n => n, fun | 17 => 0 | n => n⟩
theorem YtoealglbimbbmaaGreatDoor.laysM284 : Go.Proofs.LaysM.n284 Tryz.prog YtoealglbimbbmaaGreatDoor.laysM284_ren := {
  mixed := by kernel_rfl
  f129 := Tryz.func283.trans (congrArg some (by kernel_rfl))
  f284 := Tryz.func285.trans (congrArg some (by kernel_rfl))
  f317 := Tryz.func345.trans (congrArg some (by kernel_rfl))
  f318 := Tryz.func346.trans (congrArg some (by kernel_rfl))
  t0 := Tryz.underlying0
  a0 := Tryz.isAgg0
  z0 := Tryz.sizeOf0
  v0 := Tryz.zeroValue0
  t3 := Tryz.underlying3
  a3 := Tryz.isAgg3
  z3 := Tryz.sizeOf3
  v3 := Tryz.zeroValue3
  t4 := Tryz.underlying4
  a4 := Tryz.isAgg4
  z4 := Tryz.sizeOf4
  v4 := Tryz.zeroValue4
  t5 := Tryz.underlying5
  a5 := Tryz.isAgg5
  z5 := Tryz.sizeOf5
  v5 := Tryz.zeroValue5
  t9 := Tryz.underlying9
  a9 := Tryz.isAgg9
  z9 := Tryz.sizeOf9
  v9 := Tryz.zeroValue9
  t46 := Tryz.underlying93
  a46 := Tryz.isAgg93
  z46 := Tryz.sizeOf93
  v46 := Tryz.zeroValue93
  t53 := Tryz.underlying22
  a53 := Tryz.isAgg22
  z53 := Tryz.sizeOf22
  v53 := Tryz.zeroValue22
  t212 := Tryz.underlying413
  a212 := Tryz.isAgg413
  z212 := Tryz.sizeOf413
  v212 := Tryz.zeroValue413
  g17 := by kernel_rfl
  i0 := by kernel_rfl
  i3 := by kernel_rfl
  i4 := by kernel_rfl
  i5 := by kernel_rfl
  i9 := by kernel_rfl
  i46 := by kernel_rfl
  i53 := by kernel_rfl
  i212 := by kernel_rfl
  m17 := by kernel_rfl }
def YtoealglbimbbmaaGreatDoor.lays285_ren : Go.Shelf.Ren := ⟨fun | 285 => 286 | n => n, fun | 37 => 53 | 53 => 22 | 3 => 3 | 4 => 4 | 51 => 373 | 9 => 9 | 5 => 5 | 0 => 0 | n => n, fun | n => n⟩
theorem YtoealglbimbbmaaGreatDoor.lays285 : Go.Proofs.Lays.n285 Tryz.prog YtoealglbimbbmaaGreatDoor.lays285_ren := {
  mixed := by kernel_rfl
  f285 := Tryz.func286.trans (congrArg some (by kernel_rfl))
  t0 := Tryz.underlying0
  a0 := Tryz.isAgg0
  z0 := Tryz.sizeOf0
  v0 := Tryz.zeroValue0
  t3 := Tryz.underlying3
  a3 := Tryz.isAgg3
  z3 := Tryz.sizeOf3
  v3 := Tryz.zeroValue3
  t4 := Tryz.underlying4
  a4 := Tryz.isAgg4
  z4 := Tryz.sizeOf4
  v4 := Tryz.zeroValue4
  t5 := Tryz.underlying5
  a5 := Tryz.isAgg5
  z5 := Tryz.sizeOf5
  v5 := Tryz.zeroValue5
  t9 := Tryz.underlying9
  a9 := Tryz.isAgg9
  z9 := Tryz.sizeOf9
  v9 := Tryz.zeroValue9
  t37 := Tryz.underlying53
  a37 := Tryz.isAgg53
  z37 := Tryz.sizeOf53
  v37 := Tryz.zeroValue53
  t51 := Tryz.underlying373
  a51 := Tryz.isAgg373
  z51 := Tryz.sizeOf373
  v51 := Tryz.zeroValue373
  t53 := Tryz.underlying22
  a53 := Tryz.isAgg22
  z53 := Tryz.sizeOf22
  v53 := Tryz.zeroValue22 }
def YtoealglbimbbmaaGreatDoor.lays156_ren : Go.Shelf.Ren := ⟨fun | 156 => 182 | 165 => 215 | 166 => 216 | 169 => 217 | 240 => 239 | 241 => 240 | 276 => 288 | 277 => 289 | n => n, fun | 31 => 275 | 9 => 9 | 3 => 3 | 4 => 4 | 0 => 0 | 20 => 20 | 72 => 319 | 76 => 322 | 70 => 317 | 37 => 53 | 75 => 321 | 127 => 339 | 164 => 378 | 5 => 5 | 80 => 228 | n => n, fun | n => n⟩
theorem YtoealglbimbbmaaGreatDoor.lays156 : Go.Proofs.Lays.n156 Tryz.prog YtoealglbimbbmaaGreatDoor.lays156_ren := {
  mixed := by kernel_rfl
  f156 := Tryz.func182.trans (congrArg some (by kernel_rfl))
  f165 := Tryz.func215.trans (congrArg some (by kernel_rfl))
  f166 := Tryz.func216.trans (congrArg some (by kernel_rfl))
  f169 := Tryz.func217.trans (congrArg some (by kernel_rfl))
  f240 := Tryz.func239.trans (congrArg some (by kernel_rfl))
  f241 := Tryz.func240.trans (congrArg some (by kernel_rfl))
  f276 := Tryz.func288.trans (congrArg some (by kernel_rfl))
  f277 := Tryz.func289.trans (congrArg some (by kernel_rfl))
  t0 := Tryz.underlying0
  a0 := Tryz.isAgg0
  z0 := Tryz.sizeOf0
  v0 := Tryz.zeroValue0
  t3 := Tryz.underlying3
  a3 := Tryz.isAgg3
  z3 := Tryz.sizeOf3
  v3 := Tryz.zeroValue3
  t4 := Tryz.underlying4
  a4 := Tryz.isAgg4
  z4 := Tryz.sizeOf4
  v4 := Tryz.zeroValue4
  t9 := Tryz.underlying9
  a9 := Tryz.isAgg9
  z9 := Tryz.sizeOf9
  v9 := Tryz.zeroValue9
  t20 := Tryz.underlying20
  a20 := Tryz.isAgg20
  z20 := Tryz.sizeOf20
  v20 := Tryz.zeroValue20
  t31 := Tryz.underlying275
  a31 := Tryz.isAgg275
  z31 := Tryz.sizeOf275
  v31 := Tryz.zeroValue275
  t37 := Tryz.underlying53
  a37 := Tryz.isAgg53
  z37 := Tryz.sizeOf53
  v37 := Tryz.zeroValue53
  t70 := Tryz.underlying317
  a70 := Tryz.isAgg317
  z70 := Tryz.sizeOf317
  v70 := Tryz.zeroValue317
  t72 := Tryz.underlying319
  a72 := Tryz.isAgg319
  z72 := Tryz.sizeOf319
  v72 := Tryz.zeroValue319
  t75 := Tryz.underlying321
  a75 := Tryz.isAgg321
  z75 := Tryz.sizeOf321
  v75 := Tryz.zeroValue321
  t76 := Tryz.underlying322
  a76 := Tryz.isAgg322
  z76 := Tryz.sizeOf322
  v76 := Tryz.zeroValue322
  t127 := Tryz.underlying339
  a127 := Tryz.isAgg339
  z127 := Tryz.sizeOf339
  v127 := Tryz.zeroValue339
  t164 := Tryz.underlying378
  a164 := Tryz.isAgg378
  z164 := Tryz.sizeOf378
  v164 := Tryz.zeroValue378 }
theorem YtoealglbimbbmaaGreatDoor.extra156:Builder.Extra Tryz.prog YtoealglbimbbmaaGreatDoor.lays156_ren:={
 sizeBuilder:=by kernel_rfl
 liesBuilder:=by kernel_rfl
 t5:=by kernel_rfl
 a5:=fun _=>by kernel_rfl
 z5:=fun _=>by kernel_rfl
 v5:=fun _=>by kernel_rfl
 infoByte:=by kernel_rfl
 cellsByte:=by kernel_rfl
 sizeByte:=by kernel_rfl
 neB5:=by decide }
end Go.Proofs
namespace Go.Proofs.YtoealglbimbbmaaGreatDoor.S
open Go Go.Proofs Go.Sort Go.Lib Go.RowKit
set_option linter.unusedVariables false
set_option linter.unusedSimpArgs false
theorem J4 (w:World)(T:TypeId)(nd:Nat)(hs:nd≤24):Go.Sort.Holds (fun(b:UInt8)=>Value.int .u8 (b.toNat:Int)) (w.alloc (.cells zeros24 T)) w.heap.size 0 (Array.replicate nd (0:UInt8)):=fun j hj=>by
 have hj':j<nd:=by simpa using hj
 refine⟨?_,World.frozen?_alloc_new _ _ _ _⟩
 rw [World.cell?_alloc_new,zeros24_at _ (by omega),getElem!_pos _ j hj]
 simp
theorem Qk (w:World)(o:Obj)(dk:Array UInt8)(k:Nat):∃os,(putRow (fun(b:UInt8)=>Value.int .u8 (b.toNat:Int)) (w.alloc o) w.heap.size 0 dk).drewN k=grow (w.drewN k) os:=by
 rw [alloc_eq_grow]
 obtain⟨os',_,e⟩:=putRow_grow_new (fun(b:UInt8)=>Value.int .u8 (b.toNat:Int)) w #[o] w.heap.size 0 dk (Nat.le_refl _)
 exact⟨os',by rw [e];rfl⟩
noncomputable def K7:String:=match Tryz.prog.globals[0]? with
 | some g=>g.name
 | none => ""
theorem Rk {w:World}{x:String}(e:K7=x)(h:TabIs Tryz.prog w K7 .u64 pow10Tab):TabIs Tryz.prog w x .u64 pow10Tab:=by rw [←e];exact h
theorem RX {w:World}{x:String}(e:K7=x)(h:TabIs Tryz.prog w x .u64 pow10Tab):TabIs Tryz.prog w K7 .u64 pow10Tab:=by rw [e];exact h
set_option maxHeartbeats 6400000 in
set_option maxRecDepth 100000 in
theorem RT (u:Nat)(hu1:100≤u)(hu64:u<18446744073709551616)(w:World)(htab:TabIs Tryz.prog w K7 .u64 pow10Tab) :
  Calls Tryz.prog WH #[.int .u64 u,.int .i64 10] w fun e w'=>e=.returned (.string ⟨(decDigits u).toArray⟩)∧∃k os,w'=grow (w.drewN k) os:=by
 have hnd20:nDigits u≤20:=by have:=numDigits_eq u (by omega) hu64;split at this <;> omega
 have hal:Tryz.prog.arrayLen 374=24:=by kernel_rfl
 have hsl1:∀W,(Instr.sliceAt 374 (.pointer (some ⟨w.heap.size,0,none⟩)) none (some (.int .i64 (nDigits u:Int))) none).run Tryz.prog W=.ok (.slice (some ⟨w.heap.size,0,none⟩) (nDigits u) 24) W:=fun W=>by
  rw [run_sliceAt_array_h W 374 ⟨w.heap.size,0,none⟩ (by kernel_rfl) .i64 (nDigits u:Int) (by omega) (by rw [hal];omega)]
  rw [hal]
  rfl
 have hH0:=J4 w 374 (nDigits u) (by omega)
 have hfmt:=Any.internal_strconv_formatBase10 YtoealglbimbbmaaGreatDoor.lays285 w.heap.size 0 24 u (Array.replicate (nDigits u) 0) (w.alloc (.cells zeros24 374)) hH0 (by rw [Array.size_replicate];exact lt_pow_nDigits u) hu64 (by rw [Array.size_replicate];omega)
 rw [Array.size_replicate] at hfmt
 have HH0:=hid hH0
 clear hH0 hal
 go_enter Tryz.func238,Tryz.ntmps238
 go_wp2_with fail
 refine(Any.internal_strconv_numDigits YtoealglbimbbmaaGreatDoor.laysM284 u (by omega) hu64 _ (tabIs_alloc (Rk (by kernel_rfl) htab) _)).mono ?_
 rintro e w' ⟨rfl,rfl⟩
 go_wp2_with fail
 refine hfmt.mono ?_
 rintro e w' ⟨rfl,k,v',dk,rfl,hF⟩
 have hcv:(convert 53 9 (.slice (some ⟨w.heap.size,0,none⟩) (nDigits u) 24)).run Tryz.prog ((putRow (fun(b:UInt8)=>Value.int .u8 (b.toNat:Int)) (w.alloc (.cells zeros24 374)) w.heap.size 0 dk).drewN k)=.ok (.string ⟨(decDigits u).toArray⟩) ((putRow (fun(b:UInt8)=>Value.int .u8 (b.toNat:Int)) (w.alloc (.cells zeros24 374)) w.heap.size 0 dk).drewN k):=by
  have h:=run_convert_bytes_back (P:=Tryz.prog) ((putRow (fun(b:UInt8)=>Value.int .u8 (b.toNat:Int)) (w.alloc (.cells zeros24 374)) w.heap.size 0 dk).drewN k) 53 9 5 ⟨w.heap.size,0,none⟩ 24 (decDigits u) Tryz.underlying53 Tryz.underlying5 Tryz.underlying9 (fun j hj=>by
   rw [row_is_numeral hF j hj,add_plain,World.cell?_drewN]
   exact cell?_putRow (fun(b:UInt8)=>Value.int .u8 (b.toNat:Int)) _ w.heap.size 0 _ dk HH0.out (by rw [hF.size,Array.size_replicate]) j (by rw [hF.size];rw [decDigits_length] at hj;exact hj))
  rw [decDigits_length] at h
  exact h
 go_wp2_with fail
 go_ret
 obtain⟨os,eo⟩:=Qk w (.cells zeros24 374) dk k
 exact⟨rfl,k,os,eo⟩
def jM (n:Int):Prop:=0≤n∧n≤18446744073709551615
theorem kU:jM 0:=⟨by decide,by decide⟩
def uR (w0:bh):Prop:=TabIs Tryz.prog w0.w K7 .u64 pow10Tab
section
variable {w0:bh}{L M:List ay}{K:KV}{F:World→Prop}{C:ay→List ay}{b:Nat}{w w':World}{v:Value}
theorem uR.at_ (ht:uR w0)(H:St w0 L w):TabIs Tryz.prog w K7 .u64 pow10Tab:=by
 obtain⟨h,hs,hd⟩:=H
 unfold uR at ht
 unfold TabIs World.var? at *
 cases hg:Tryz.prog.globalNamed K7 with
 | none=>simp [hg] at ht
 | some g =>
  simp only [hg,Option.bind_some] at ht ⊢
  have hlt:g<w0.w.heap.size:=by
   rcases Nat.lt_or_ge g w0.w.heap.size with h' | h'
   ·exact h'
   ·rw [Array.getElem?_eq_none h'] at ht;simp at ht
  rw [hd.step.block g hlt (by simp)]
  exact ht
theorem St.below (H:St w0 L w)(hb:Below w.heap.size w w'):St w0 L w':=by
 obtain⟨h,hs,hd⟩:=H
 have old:∀k,k<w.heap.size→w'.heap[k]? = w.heap[k]?:=hb.block
 refine⟨h,hs,⟨⟨hb.os.trans hd.step.os,hb.tape.trans hd.step.tape,hb.output.trans hd.step.output,Nat.le_trans hd.step.size hb.size,fun k hk hn=>?_⟩,fun b cs hc=>?_,fun b o hc=>?_,Nat.le_trans hd.min hb.size⟩⟩
 ·rw [old k (Nat.lt_of_lt_of_le hk hd.step.size)];exact hd.step.block k hk hn
 ·obtain⟨h1,h2,h3⟩:=hd.cell b cs hc
  have hb2:=old b (tY h2)
  exact⟨h1,by unfold mem at h2 ⊢;rw [hb2];exact h2,by unfold opn at h3 ⊢;rw [hb2];exact h3⟩
 ·obtain⟨h1,h2⟩:=hd.kept b o hc
  exact⟨by rw [old b (Array.getElem?_eq_some_iff.1 h1).1];exact h1,h2⟩
theorem St.drewN (H:St w0 L w):∀n,St w0 L (w.drewN n)
 | 0=>by rw [World.drewN_zero];exact H
 | n+1=>by
  have e:w.drewN (n+1)=(w.drewN n).drew:=by rw [show (w.drewN n).drew=(w.drewN n).drewN 1 from rfl,World.drewN_drewN]
  rw [e]
  exact(St.drewN H n).drew
theorem St.grew (H:St w0 L w)(os:Array Obj):St w0 L (Sort.grow w os) :=
 H.below ⟨rfl,rfl,rfl,by simp [Sort.grow],fun k hk=>heap_grow_old _ _ hk⟩
theorem T6 (ht:uR w0){n:Int}(hn:jM n)(hK:∀s:ByteArray,s.size≤20→(n<10→s=Ch n)→G w0 L (K (.string s))):G w0 L (CP Tryz.prog WH [u64 n,i64 10] K):=by
 obtain⟨h0,h1⟩:=hn
 by_cases h100:n<100
 ·refine oV ?_
  unfold iM
  refine eY h100 ?_
  rw [iy (n:=n) (by omega) (by omega)]
  refine rU ?_
  unfold kH
  by_cases h9:n<10
  ·refine eY h9 ?_
   rw [iy (n:=n+1) (by omega) (by omega)]
   intro w H
   exact⟨h0,by omega,by show n+1≤36;omega,hK (Ch n) (by unfold Ch;rw [ByteArray.size_extract];omega) (fun _=>rfl) w H⟩
  ·refine eY h9 ?_
   rw [iy (n:=n*2) (by omega) (by omega),iy (n:=n*2+2) (by omega) (by omega)]
   intro w H
   refine⟨by omega,by omega,?_,hK _ ?_ (fun g=>absurd g h9) w H⟩
   ·show n*2+2≤200
    omega
   ·rw [ByteArray.size_extract];omega
 ·intro w H
  obtain⟨u,rfl⟩:=Int.eq_ofNat_of_zero_le h0
  refine⟨⟨_,Tryz.func238,by kernel_rfl,by kernel_rfl⟩,(RT u (by omega) (by omega) w (ht.at_ H)).mono ?_⟩
  rintro e w' ⟨rfl,k,os,rfl⟩
  have hnd20:nDigits u≤20:=by have:=numDigits_eq u (by omega) (by omega);split at this <;> omega
  refine hK _ ?_ (fun g=>by omega) _ ((H.drewN k).grew os)
  show (decDigits u).toArray.size≤20
  rw [List.size_toArray,decDigits_length]
  exact hnd20
theorem RK {l:List ByteArray}:(∀x∈l,x.size≤20)→lens (l.map (·.data.toList))≤20*l.length:=by
 induction l with
 | nil=>intro _;simp [lens]
 | cons x l ih =>
  intro h
  have h1:=h x List.mem_cons_self
  have h2:=ih fun y hy=>h y (List.mem_cons_of_mem _ hy)
  have h3:x.data.toList.length≤20:=by rw [Array.length_toList];exact h1
  simp only [lens,List.map_cons,List.sum_cons,List.length_cons] at h2 ⊢
  omega
theorem SZ {ys:List ByteArray}[i:oL L v Iq ys C](hl:ys.length≤16)(hs:∀x∈ys,x.size≤20)(hK:∀s:ByteArray,(∀x,ys=[x]→s=x)→G w0 L (K (.string s))):G w0 L (CP Tryz.prog Yq [v,fP [32]] K):=by
 have known:∃fn,Tryz.prog.funcs[Yq]? = some fn∧fn.body.isNone=false∧(fn.name == "runtime.NumGoroutine")=false:=⟨_,Tryz.func182,by kernel_rfl,by kernel_rfl⟩
 obtain⟨M,e1,e2⟩:=oo (w0:=w0) i.sel
 intro w H
 have H1:=(e1 w).1 H
 rcases H1.sl_cases with ⟨rfl,rfl,H2⟩ | ⟨c,cap,rest,rfl,h2,h3,H2⟩
 ·refine⟨known,(Any.strings_Join_none YtoealglbimbbmaaGreatDoor.lays156 YtoealglbimbbmaaGreatDoor.extra156 none 0 _ w).mono ?_⟩
  rintro e w' ⟨rfl,rfl⟩
  exact hK _ (fun x g=>by cases g) _ H
 ·have hm:=H2.own_mem
  have hcell:∀(j:Nat) x,ys[j]? = some x→w.cell? ⟨c,0+j,none⟩=some (.string x):=fun j x hx=>by
   rw [mo hm.2.1]
   have:=sN Iq rest ys j x hx
   have h0:(((ys.flatMap Iq.enc++rest).drop (j*1)).take 1)[0]? = some (.string x):=by rw [show (List.drop (j*1) (ys.flatMap Iq.enc++rest)).take 1=[.string x] from this];rfl
   rw [List.getElem?_take] at h0
   simpa using h0
  refine⟨known,(Any.strings_Join YtoealglbimbbmaaGreatDoor.lays156 YtoealglbimbbmaaGreatDoor.extra156 c 0 cap ys ⟨#[32]⟩ w hcell (tY hm.2.1) (by omega) h2 ?_).mono ?_⟩
  ·cases ys with
   | nil=>simp [Lib.join]
   | cons x r =>
    rw [List.map_cons,Lib.join_length]
    have h4:=RK hs
    rw [List.map_cons] at h4
    have h5:(⟨#[32]⟩:ByteArray).data.toList.length=1:=rfl
    rw [h5,List.length_map]
    simp only [List.length_cons] at h4 hl
    omega
  ·rintro e w' ⟨rfl,hb⟩
   refine hK _ (fun x g=>?_) _ (H.below hb)
   rw [g,List.map_cons,List.map_nil,Lib.join_one,Lib.mk_data]
end
end Go.Proofs.YtoealglbimbbmaaGreatDoor.S
namespace Go.Proofs.YtoealglbimbbmaaGreatDoor.S
open Go Go.Proofs
set_option linter.unusedVariables false
set_option linter.unusedSimpArgs false
def SW (xs:List Int)(s:ByteArray):Prop:=xs.length=1→(∀n∈xs,0≤n∧n<10)→s=HV xs
def Bd (xs:List Int):Prop:=xs.length≤16∧∀n∈xs,jM n
section
variable {w0:bh}{L M:List ay}{K:KV}{F:World→Prop}{C:ay→List ay}{b:Nat}
theorem I3 (ht:uR w0){n:Int}(hn:jM n)(hK:∀s:ByteArray,s.size≤20→(n<10→s=Ch n)→G w0 L (K (.string s))):G w0 L (CP Tryz.prog Yp [.iface 22 (u64 n)] K):=by
 refine Je ?_
 unfold A5
 have ha:∀(K':KV),G w0 L (xV 22 (u64 0) (.iface 22 (u64 n)) K')=G w0 L (K' (.tuple #[u64 n,.bool true])):=fun K'=>by
  congr 1
 rw [ha]
 refine gr ?_
 refine xA ?_
 unfold oh
 refine T6 ht hn fun s h1 h2=>?_
 exact hK s h1 h2
theorem IE (ht:uR w0){xs:List Int}(hx:Bd xs)[i:aq L hZ b xs C](hK:∀s,SW xs s→G w0 L (K (.string s))):G w0 L (CP Tryz.prog X9 [ptr b 0] K):=by
 refine i.roN (P:=SW xs) (N:=fun _=>LF) (F':=fun s=>K (.string s)) (fun M hK=>?_) (fun s hs=>by rw [Jz];exact hK s hs)
 simp only [Jz] at hK
 obtain⟨hl,hx⟩:=hx
 refine z9 ?_
 unfold qW
 rw [eK]
 intro v hv
 have hK:=fun s h=>(eK ▸ hK s h:_)
 refine gr ?_
 refine G.make (n:=xs.length) Iq ⟨#[]⟩ rfl (by simp [maxLen];omega) (by omega) fun u hu=>?_
 refine gr ?_
 refine G.loop1 (σ:=Nat×List ByteArray) (fun z=>i64 z.1) (fun z=>sl Iq u z.2::own b [v]::sl GJ v xs::M) (fun z=>z.1≤xs.length∧z.2.length=xs.length∧(∀s∈z.2,s.size≤20)∧∀n,xs=[n]→z.1=1→n<10→z.2=[Ch n]) (fun z=>xs.length-z.1) (0,List.replicate xs.length ⟨#[]⟩) rfl rfl ⟨Nat.zero_le _,by simp,fun s hs=>by rw [List.eq_of_mem_replicate hs];decide,fun n _ g=>by cases g⟩ ?_
 rintro⟨k,ys⟩ ⟨hk,hyl,hys,hy1⟩ J hJ
 simp only at hk hyl hys hy1 hJ ⊢
 by_cases c:k<xs.length
 ·have c1:(k:Int)<xs.length:=by omega
  have e:eU xs k xs[k]:=⟨List.getElem?_eq_getElem c⟩
  have e2:eU ys k ys[k]:=⟨List.getElem?_eq_getElem (by omega)⟩
  refine gf (eq_true c1) ?_
  refine I3 ht (hx _ (List.getElem_mem c)) fun s h1 h2=>?_
  refine gg ?_
  rw [di (by omega)]
  refine hJ (k+1,ys.set k s) ⟨c,by rw [List.length_set];exact hyl,fun t ht=>?_,fun n en ek hn=>?_⟩ (by simp only;omega)
  ·rcases List.mem_or_eq_of_mem_set ht with g | g
   ·exact hys t g
   ·rw [g];exact h1
  ·subst en
   have k0:k=0:=by simpa using ek
   subst k0
   obtain⟨y,rfl⟩:=List.length_eq_one_iff.1 hyl
   rw [h2 hn]
   rfl
 ·have hk2:k=xs.length:=by omega
  have c1:¬(k:Int)<xs.length:=by omega
  refine gf c1 ?_
  refine SZ (ys:=ys) (by omega) hys fun s hs=>?_
  refine(hK s (fun g1 g2=>?_) v hv).sub
  obtain⟨n,rfl⟩:=List.length_eq_one_iff.1 g1
  exact hs _ (hy1 n rfl (by simpa using hk2) (g2 n List.mem_cons_self).2)
end
end Go.Proofs.YtoealglbimbbmaaGreatDoor.S
