import Derived.Test.YtoealglbimbbmaaGreatDoorSLink
import Derived.Test.YtoealglbimbbmaaGreatDoorSIn
import Derived.RangeFuncBox
import Derived.Shelf.Abstract
import Derived.WalkKit
import Derived.OwnWalkIn
import Derived.TacticsInMore
import Derived.LoopNIn
import Derived.LoopIn
namespace Go.Proofs.YtoealglbimbbmaaGreatDoor.S
open Go Go.Proofs Go.RowKit Go.Shelf
set_option linter.unusedVariables false
set_option maxRecDepth 100000
set_option linter.unusedSimpArgs false
 attribute [local go_sem] Oper.semAt_some
theorem Eo {n:Nat}(j:Nat)(hj:j<n):(kJ n).take (n-j)=(kJ n).take (n-(j+1))++[(⟨j,hj⟩:Fin n)]:=by
 have h:(kJ n)[n-(j+1)]? = some ⟨j,hj⟩:=by
  unfold kJ
  rw [List.getElem?_reverse (by simp;omega)]
  simp
  have:n-1-(n-(j+1))=j:=by omega
  simp [this,hj]
 rw [show n-j=(n-(j+1))+1 by omega,List.take_add_one,h]
 rfl
theorem Ub.refl (c:Nat)(v:Value)(rows:List Nat)(W:World):Ub c v rows W W:=⟨fun h=>h,fun h=>h⟩
set_option maxRecDepth 100000 in
set_option maxHeartbeats 4000000 in
theorem MN:Lm Tryz.prog GT:=by
 intro m c v rows w0 hc0 hp0 hlen l J Jx W hW hJ hJx hY h0
 refine callsIn_of_wp Tryz.func233 rfl trivial ?_ rfl
 simp only [Tryz.ntmps233,List.size_toArray,List.length_cons,List.length_nil,Nat.reduceAdd,Nat.reduceSub,Array.replicate_succ,Array.replicate_zero,List.push_toArray,List.append_toArray,List.nil_append,List.cons_append]
 have bel:∀{A B:World},Below w0.heap.size A B→∀b cs,b<w0.heap.size→mem A b=some cs→mem B b=some cs:=fun h b cs hb hm=>by
  obtain⟨_,_,_,_,hbk⟩:=h
  unfold mem at hm ⊢;rw [hbk b hb];exact hm
 have hcW:mem W c=some [v]:=bel hW c _ (tY hc0) hc0
 have hpW:t8 W v rows:=by
  obtain⟨oa,cap,h1,h2⟩:=hp0
  refine⟨oa,cap,h1,fun i p hp=>?_⟩
  obtain⟨b,o,cs,g1,g2,g3⟩:=h2 i p hp
  exact⟨b,o,cs,g1,bel hW b _ (tY g2) g2,g3⟩
 obtain⟨oa,cap,rfl,hrows⟩:=id hpW
 have hcell0:W.cell? ⟨c,0,none⟩=some (.slice oa rows.length cap):=by rw [mo hcW];rfl
 have wlen:IntKind.wrap .i64 ((rows.length:Int)-1)=(rows.length:Int)-1:=Go.IntWalk.i64_in _ ⟨by omega,by omega⟩
 gi_wp2
 gi_loopw [3] (fun i wr=>∃j:Nat,j≤rows.length∧i=.int .i64 ((j:Int)-1)∧J ((kJ rows.length).take (rows.length-j)) wr∧Ub c (.slice oa rows.length cap) rows W wr)
  (fun i _=>(intOf i+1).toNat)
 case atStart=>exact⟨rows.length,Nat.le_refl _,rfl,by simpa using h0,Ub.refl _ _ _ _⟩
 case round =>
  obtain⟨j,hj,rfl,hJs,hkp⟩:=hrel
  have hcellr:wr.cell? ⟨c,0,none⟩=some (.slice oa rows.length cap):=by rw [mo (hkp.1 hcW)];rfl
  cases j with
  | zero =>
   have ej:((0:Nat):Int)-1=-1:=rfl
   rw [ej]
   gi_wp2
   go_end0
   refine⟨⟨_,rfl⟩,.inl ⟨_,rfl,?_⟩⟩
   rw [Nat.sub_zero,List.take_of_length_le (by simp [kJ])] at hJs
   exact hJs
  | succ k =>
   have ej:((k+1:Nat):Int)-1=k:=by omega
   rw [ej]
   have hk:k<rows.length:=by omega
   obtain⟨_,_,e1,hrr⟩:=hkp.2 hpW
   obtain⟨b,o,cs,hoa,hm,hx⟩:=hrr k rows[k] (List.getElem?_eq_getElem hk)
   cases e1
   subst hoa
   have hcellx:wr.cell? ⟨b,o+k,none⟩=some (.pointer (some ⟨rows[k],0,none⟩)):=by rw [mo hm];exact hx
   obtain⟨fn,tmps,assign,body,hy,hR⟩:=hY _ ⟨k,hk⟩ wr hJs (by simp [kJ];omega)
   dsimp only at hy
   have hk0:(0:Int)≤k:=by omega
   have hkI:(k:Int)<rows.length:=by omega
   have wk:IntKind.wrap .i64 ((k:Int)-1)=(k:Int)-1:=Go.IntWalk.i64_in _ ⟨by omega,by omega⟩
   gi_wp2
   refine⟨fun h=>(by cases h),hR.mono ?_⟩
   rintro e W3 (⟨rfl,hJ3,hk3⟩ | ⟨rfl,hJx3⟩)
   ·gi_wp2
    go_roundw
    case rel=>exact⟨k,by omega,by simp [wk],by rw [Eo k hk];exact hJ3,⟨fun h=>hk3.1 (hkp.1 h),fun h=>hk3.2 (hkp.2 h)⟩⟩
    case measure=>simp [intOf,wk]
   ·gi_wp2
    refine bodyPost_ret (results_none rfl _ _ _) rfl ?_
    refine⟨⟨_,rfl⟩,.inr ⟨_,?_,hJx3⟩⟩
    rw [←Eo k hk]
    exact List.take_prefix _ _
theorem Df:∀(args:Array Value)(w:World),(callFunc GT args).run Tryz.prog w=.ok (.enter GT args) w:=enters_of Tryz.func233 (by kernel_rfl) rfl
theorem uT (a0:Value)(K:KV)(w:World):jd a0 K w=It Tl m7 GT Tryz.f173 [a0] K w:=by kernel_rfl
theorem uZ {a0:Value}{K:KV}{w0:bh}{L:List ay}(h:G w0 L (gJ a0 K)):G w0 L (CP Tryz.prog Yl [a0] K):=fun w hw=>A7 FX m7 MN Df Tryz.func173 (by kernel_rfl) (Eq.mp (uT a0 K w) (Eq.mp (congrFun (uY a0 K) w) (h w hw)))
theorem yg (a0 a1:Value)(K:KV)(w:World):kf a0 a1 K w=It Tl pN GT Tryz.f231 [a0,a1] K w:=by kernel_rfl
theorem yh {a0 a1:Value}{K:KV}{w0:bh}{L:List ay}(h:G w0 L (il a0 a1 K)):G w0 L (CP Tryz.prog YE [a0,a1] K):=fun w hw=>A7 FX pN MN Df Tryz.func231 (by kernel_rfl) (Eq.mp (yg a0 a1 K w) (Eq.mp (congrFun (yx a0 a1 K) w) (h w hw)))
end Go.Proofs.YtoealglbimbbmaaGreatDoor.S
