import Derived.Test.YtoealglbimbbmaaGreatDoorData
import Derived.Test.YtoealglbimbbmaaGreatDoorSIn
namespace Go.Proofs.YtoealglbimbbmaaGreatDoor.S
open Go Go.Proofs Go.RowKit
set_option linter.unusedVariables false
section
variable {w0:bh}{L:List ay}
theorem St.turn {A B:World}{row:Option Nat}(H:St w0 L A)(hg:A.grownBy B row)(hr:∀r,row=some r→w0.w.heap.size≤r∧(∃o,A.heap[r]? = some o∧o.isCells=false)∧w0.keep r=none):St w0 L B:=by
 obtain⟨h,hs,hd⟩:=H
 have other:∀k o,A.heap[k]? = some o→some k≠row→B.heap[k]? = some o:=fun k o hk hne=>by rw [hg.block k (Array.getElem?_eq_some_iff.1 hk).1 hne];exact hk
 refine⟨h,hs,⟨hg.os.trans hd.step.os,hg.tape.trans hd.step.tape,hg.output.trans hd.step.output,Nat.le_trans hd.step.size hg.size,fun k hk _=>?_⟩,fun b cs hb=>?_,fun b o hb=>?_,Nat.le_trans hd.min hg.size⟩
 ·rw [hg.block k (Nat.lt_of_lt_of_le hk hd.step.size) (fun e=>by have:=(hr k e.symm).1;omega)]
  exact hd.step.block k hk (by simp)
 ·obtain⟨h1,h2,h3⟩:=hd.cell b cs hb
  have hne:some b≠row:=fun e=>by
   obtain⟨_,⟨o,ho,hc⟩,_⟩:=hr b e.symm
   unfold mem at h2
   rw [ho] at h2
   cases o <;> first | (exact absurd (show (none:Option (List Value))=some cs from h2) (by simp)) | (exact absurd (show true=false from hc) (by simp))
  have hbk:=hg.block b (tY h2) hne
  exact⟨h1,by unfold mem at h2 ⊢;rw [hbk];exact h2,by unfold opn at h3 ⊢;rw [hbk];exact h3⟩
 ·obtain⟨h1,h2⟩:=hd.kept b o hb
  exact⟨other b o h1 (fun e=>by have:=(hr b e.symm).2.2;rw [hb] at this;cases this),h2⟩
theorem St.with {W:World}{k:Nat→Option Obj}{m:Nat}(H:St w0 L W)(hk:∀b o,k b=some o→W.heap[b]? = some o∧o.isCells=false)(hm:m≤W.heap.size):St (w0.with k m) L W:=by
 obtain⟨h,hs,hd⟩:=H
 refine⟨h,hs,hd.step,hd.cell,fun b o hb=>?_,by have:=hd.min;simp only [bh.with];omega⟩
 simp only [bh.with] at hb
 split at hb
 ·rename_i o' ho;cases hb;exact hd.kept b o ho
 ·exact hk b o hb
theorem St.less {W:World}{k:Nat→Option Obj}{m:Nat}(H:St (w0.with k m) L W):St w0 L W:=by
 obtain⟨h,hs,hd⟩:=H
 exact⟨h,hs,hd.step,hd.cell,fun b o hb=>hd.kept b o (by simp only [bh.with,hb]),by have:=hd.min;simp only [bh.with] at this;omega⟩
theorem St.stays {W:World}{k:Nat→Option Obj}{m b:Nat}{o:Obj}(H:St (w0.with k m) L W)(hb:w0.keep b=none)(hk:k b=some o):W.heap[b]? = some o:=by
 obtain⟨h,hs,hd⟩:=H
 exact(hd.kept b o (by simp only [bh.with,hb];exact hk)).1
theorem St.least {W:World}{k:Nat→Option Obj}{m:Nat}(H:St (w0.with k m) L W):m≤W.heap.size:=by
 obtain⟨h,hs,hd⟩:=H
 have:=hd.min
 simp only [bh.with] at this
 omega
theorem St.keepLt {W:World}(H:St w0 L W){b:Nat}(hb:W.heap.size≤b):w0.keep b=none:=by
 obtain⟨h,hs,hd⟩:=H
 cases e:w0.keep b with
 | none=>rfl
 | some o =>
  have:=(Array.getElem?_eq_some_iff.1 (hd.kept b o e).1).1
  omega
theorem OE {W:World}{v:Value}{rows:List Nat}(h:fy gX W v rows):t8 W v rows:=by
 obtain⟨oa,cap,h1,h2,h3⟩:=h
 refine⟨oa,cap,h1,fun i p hp=>?_⟩
 obtain⟨e,o,cs,g1,g2,g3,g4⟩:=h3 i p hp
 refine⟨e,o,cs,g1,g2,?_⟩
 have:((cs.drop (o+i*1)).take 1)[0]? = some (ptr p 0):=by rw [show (cs.drop (o+i*1)).take 1=[ptr p 0] from g4];rfl
 rw [List.getElem?_take] at this
 simpa using this
theorem G.less {F:World→Prop}{k:Nat→Option Obj}{m:Nat}(h:G w0 L F):G (w0.with k m) L F:=fun W H=>h W H.less
theorem G.back {gf c:Nat}{v:Value}{rows:List Nat}(Ls Lx:List (Fin rows.length)→List ay){body:(World→Prop)→(World→Prop)→Value→Value→World→Prop}{done ret:KV→World→Prop}{K:KV}(hlen:rows.length≤1000000)
  (hrd:∀pre W,St w0 (Ls pre) W→mem W c=some [v]∧fy gX W v rows) (hL:∀W,St w0 L W→St w0 (Ls []) W)
  (hr:∀k m pre (i:Fin rows.length) (J R:World→Prop),G (w0.with k m) (Ls (pre++[i])) J→G (w0.with k m) (Lx (pre++[i])) R→G (w0.with k m) (Ls pre) (body J R (i64 i.1) (ptr rows[i.1] 0)))
  (hd:∀k m (K':KV),(∀v L',G w0 L' (K v)→G (w0.with k m) L' (K' v))→G (w0.with k m) (Ls (kJ rows.length)) (done K'))
  (hx:∀k m (K':KV) pre,pre <+: kJ rows.length→(∀v L',G w0 L' (K v)→G (w0.with k m) L' (K' v))→G (w0.with k m) (Lx pre) (ret K')) :
  G w0 L (Az gf (.func (.func gf) #[] #[ptr c 0]) body done ret K):=by
 intro w H
 have hkn:∀r,w.heap.size≤r→w0.keep r=none:=fun r hr=>H.keepLt hr
 have hsz:w0.w.heap.size≤w.heap.size:=H.step.size
 have own:∀(f:List (Fin rows.length)→List ay),OwnFrom w.heap.size (fun pre W=>St w0 (f pre) W):=fun f s A B row hs hg hrow =>
  hs.turn hg (fun r e=>⟨Nat.le_trans hsz (hrow r e).1,(hrow r e).2,hkn r (hrow r e).1⟩)
 have last:∀D (W:World),w.heap.size≤D→W.heap[D]? = some (.deferred (some []))→∀(f:List ay),St w0 f W→∃k m,St (w0.with k m) f W∧∀v L',G w0 L' (K v)→G (w0.with k m) L' (HU D K v):=fun D W hD hW f hs=>by
  refine⟨fun b=>if b=D then some (.deferred (some [])) else none,0,hs.with (fun b o hb=>?_) (Nat.zero_le _),fun v L' hk W' H'=>?_⟩
  ·split at hb
   ·rename_i e;subst e;cases hb;exact⟨hW,rfl⟩
   ·cases hb
  ·have hD':W'.heap[D]? = some (.deferred (some [])):=H'.stays (hkn D hD) (by simp)
   exact⟨hD',hk _ (H'.less.turn (grownBy_putObj' W' D (.deferred none)) (fun r e=>by cases e;exact⟨Nat.le_trans hsz hD,⟨_,hD',rfl⟩,hkn D hD⟩))⟩
 refine⟨c,v,rows,fun pre W=>St w0 (Ls pre) W,fun pre W=>St w0 (Lx pre) W,rfl,hlen,own Ls,own Lx,fun pre W hs=>⟨(hrd pre W hs).1,OE (hrd pre W hs).2⟩,hL w H,fun pre i W hs=>?_,fun D W hD hs hW=>?_,fun pre D W hD hp hs hW=>?_⟩
 ·let k:Nat→Option Obj:=fun b=>if w.heap.size≤b then (match W.heap[b]? with | some o=>if o.isCells=false then some o else none | none=>none) else none
  have hk:∀b o,k b=some o→W.heap[b]? = some o∧o.isCells=false:=fun b o hb=>by
   simp only [k] at hb
   split at hb
   ·split at hb
    ·rename_i o' ho
     split at hb
     ·rename_i hc;cases hb;exact⟨ho,hc⟩
     ·cases hb
    ·cases hb
   ·cases hb
  have keeps:∀{L':List ay} (W':World),St (w0.with k W.heap.size) L' W'→KeepsFrom w.heap.size W W':=fun W' H'=>⟨H'.least,fun b o hb ho hc=>H'.stays (hkn b hb) (by simp only [k,if_pos hb,ho,if_pos hc])⟩
  exact hr k W.heap.size pre i _ _ (fun W' H'=>⟨keeps W' H',H'.less⟩) (fun W' H'=>⟨keeps W' H',H'.less⟩) W (hs.with hk (Nat.le_refl _))
 ·obtain⟨k,m,h1,h2⟩:=last D W hD hW _ hs
  exact hd k m _ h2 W h1
 ·obtain⟨k,m,h1,h2⟩:=last D W hD hW _ hs
  exact hx k m _ pre hp h2 W h1
theorem Na {p:Prop}{w:World}:St w0 (ie p::L) w↔p∧St w0 L w:=by
 constructor
 ·rintro⟨h,⟨a,b,⟨hp,ha⟩,hb,j⟩,hd⟩
  exact⟨hp,b,hb,hd.sub j.right⟩
 ·rintro⟨hp,h,hs,hd⟩
  have:bk LF (da L) h:=by rw [qi];exact hs
  obtain⟨a,b,h1,h2,j⟩:=this
  exact⟨h,⟨a,b,⟨hp,h1⟩,h2,j⟩,hd⟩
theorem G.backP {gf c:Nat}{v:Value}{rows:List Nat}(Ls Lx:List (Fin rows.length)→List ay)(P Px:List (Fin rows.length)→Prop){body:(World→Prop)→(World→Prop)→Value→Value→World→Prop}{done ret:KV→World→Prop}{K:KV}(hlen:rows.length≤1000000)
  (hrd:∀pre W,St w0 (Ls pre) W→mem W c=some [v]∧fy gX W v rows) (hL:Ls []=L) (hP:P [])
  (hr:∀k m pre (i:Fin rows.length) (J R:World→Prop),P pre→(P (pre++[i])→G (w0.with k m) (Ls (pre++[i])) J)→(Px (pre++[i])→G (w0.with k m) (Lx (pre++[i])) R)→G (w0.with k m) (Ls pre) (body J R (i64 i.1) (ptr rows[i.1] 0)))
  (hd:∀k m (K':KV),P (kJ rows.length)→(∀v L',G w0 L' (K v)→G (w0.with k m) L' (K' v))→G (w0.with k m) (Ls (kJ rows.length)) (done K'))
  (hx:∀k m (K':KV) pre,pre <+: kJ rows.length→Px pre→(∀v L',G w0 L' (K v)→G (w0.with k m) L' (K' v))→G (w0.with k m) (Lx pre) (ret K')) :
  G w0 L (Az gf (.func (.func gf) #[] #[ptr c 0]) body done ret K):=by
 refine G.back (fun pre=>ie (P pre)::Ls pre) (fun pre=>ie (Px pre)::Lx pre) hlen (fun pre W H=>hrd pre W (Na.1 H).2) (fun W H=>Na.2 ⟨hP,by rw [hL];exact H⟩) (fun k m pre i J R hJ hR=>?_) (fun k m K' hk=>?_) (fun k m K' pre hp hk=>?_)
 ·rw [fU] at hJ hR ⊢
  exact fun hp=>hr k m pre i J R hp hJ hR
 ·rw [fU]
  exact fun hp=>hd k m K' hp hk
 ·rw [fU]
  exact fun hpx=>hx k m K' pre hp hpx hk
theorem OU {α:Type}{l:List α}{n:Nat}(f:Nat→α)(hn:n=l.length)(hf:∀i x,l[i]? = some x→f i=x):(kJ n).map (fun i=>f i.1)=l.reverse:=by
 subst hn
 unfold kJ
 rw [List.map_reverse]
 congr 1
 apply List.ext_getElem
 ·simp
 ·intro i h1 h2
  simp only [List.getElem_map,List.getElem_finRange]
  exact hf _ _ (List.getElem?_eq_getElem h2)
end
end Go.Proofs.YtoealglbimbbmaaGreatDoor.S
