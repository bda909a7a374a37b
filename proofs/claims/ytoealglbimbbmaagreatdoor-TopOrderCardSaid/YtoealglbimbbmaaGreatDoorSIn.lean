import Derived.Test.YtoealglbimbbmaaGreatDoorSCode
import Derived.RangeFuncNested
import Derived.OrdersIn
import Derived.TacticsIn
import Derived.RangeFuncBound
import Derived.RangeFuncCalls
import Derived.RangeFuncLeaves
import Derived.LoopIn
namespace Go.Proofs.YtoealglbimbbmaaGreatDoor.S
open Go Go.RowKit
set_option linter.unusedVariables false
abbrev Wd (ro:Option Nat):Fence:={ Fence.wide with round:=ro }
abbrev Mw:Op→Bool
 | .defer _=>true
 | _=>false
abbrev xF:List Oper→Bool
 | []=>true
 | o::l=>match Mw o.op with | true=>false | false=>xF l
abbrev rZ:Code→Bool
 | .region _ ops _=>xF ops.toList
 | .seq a b | .cond _ a b=>rZ a && rZ b
 | .block _ b=>rZ b
 | .loop _=>false
 | _=>true
theorem Gl (o:Oper)(l:List Oper):xF (o::l)=match Mw o.op with | true=>false | false=>xF l:=rfl
theorem JY (c:Call):Mw (.defer c)=true:=rfl
theorem Gf (l:List Oper):xF l=true→∀o∈l,∀c,o.op≠.defer c:=by
 induction l with
 | nil=>intro _ o ho;cases ho
 | cons o l ih =>
  intro h x hx c e
  rw [Gl] at h
  generalize hd:Mw o.op=t at h
  cases t
  ·rcases List.mem_cons.1 hx with hx | hx
   ·rw [←hx,e,JY] at hd;cases hd
   ·exact ih h x hx c e
  ·cases h
section
variable {P:Program}{ro:Option Nat}{m:Nat}{ops:Array Oper}{Q:Exit→Act→World→Prop}
theorem Pj {f:FuncId}{args:Array Value}{w:World}{R:Ending→World→Prop}(h:Calls P f args w R):CallsIn (Wd ro) m P f args w R:=(callsIn_wide (n:=m)).2 h
theorem Rt {row:String}{args:Array Value}{w:World}{R:Value→World→Prop}(h:Rows P row args w R):RowsIn (Wd ro) m P row args w R :=
 fun c cs _=>let ⟨v,w',r,s⟩:=h c cs;⟨v,w',r,stepsIn_wide.2 s⟩
theorem MK {o:Oper}{a:Act}{w:World}{next next':Act→World→Prop}(hd:∀c,o.op≠.defer c)(hn:∀a w,next a w→next' a w)(h:o.wp P a w next Q):o.wpIn (Wd ro) m P a w next' Q:=by
 refine⟨fun _ _=>trivial,?_⟩
 rw [Oper.semAt_eq _ _ _ hd]
 unfold Oper.wp at h
 generalize (execOp a.eval o).run P w=r at *
 cases r with
 | ok x w' =>
  cases x <;> simp only [Oper.upon] at h <;> simp only [Oper.uponIn]
  all_goals first
   | exact hn _ _ h
   | exact⟨(fun h=>by cases h),(Pj h).mono (fun e w'' he=>by cases e <;> first | exact hn _ _ he | exact he)⟩
   | exact⟨(fun h=>by cases h),(Rt h).mono (fun _ _ he=>hn _ _ he)⟩
 | halt x w'=>cases x <;> simp only [Oper.upon] at h <;> simp only [Oper.uponIn] <;> exact h
theorem MD (hno:¬LetsOut Q):∀(l:List Oper),(∀o∈l,∀c,o.op≠.defer c)→∀(a:Act)(w:World),wpList P ops Q l a w→wpListIn (Wd ro) m P ops Q l a w
 | [],_,a,w,h=>h
 | o::l,hd,a,w,h=>by
  have ih:=MD hno l (fun o' ho'=>hd o' (List.mem_cons_of_mem _ ho'))
  unfold wpList at h
  unfold wpListIn
  split
  ·rename_i hw
   rw [if_pos hw] at h
   rcases h with h | h
   ·exact MK (hd o (by simp)) ih h
   ·exact absurd h.2 hno
  ·rename_i hw
   rw [if_neg hw] at h
   exact⟨fun _ _=>trivial,ih _ _ h⟩
theorem ID (hno:¬LetsOut Q)(hd:∀o∈ops.toList,∀c,o.op≠.defer c):∀(fuel:Nat)(listed:Array Bool)(a:Act)(w:World),wpAny P .any ops Q fuel listed a w→wpAnyIn (Wd ro) m P .any ops Q fuel listed a w
 | 0,_,_,_,h=>h
 | fuel+1,listed,a,w,h=>⟨h.1,fun i hi=>by
  have h:=h.2 i hi
  unfold wpOp at h
  unfold wpOpIn
  split at h
  ·rename_i ho;simp only [ho];exact ID hno hd fuel _ a w h
  ·rename_i o ho
   simp only [ho]
   split
   ·rename_i hw
    simp only [hw,if_true] at h
    rcases h with h | h
    ·exact MK (hd o (List.mem_of_getElem? (l:=ops.toList) (i:=i) (by simpa using ho))) (ID hno hd fuel _) h
    ·exact absurd h.2 hno
   ·rename_i hw
    simp only [hw] at h
    exact⟨fun _ _=>trivial,ID hno hd fuel _ _ _ h⟩⟩
end
def Tg (Q:Exit→Act→World→Prop):Exit→Act→World→Prop
 | .normal,a,w=>Q .normal a w
 | _,_,_=>False
theorem ML (Q:Exit→Act→World→Prop):¬LetsOut (Tg Q):=fun⟨_,_,h⟩=>h
theorem MV {Q:Exit→Act→World→Prop}:∀e a w,Tg Q e a w→Q e a w:=fun e a w h=>by cases e <;> first | exact h | exact h.elim
theorem nM {E:An}(hE:E.OK)(N:pM){n:Nat}(ro:Option Nat)(m:Nat):∀(c:Code)(_:rZ c=true)(_:∀d∈iZ c,d<n)(fr:Fr)(a:Act)(w:World)(k:KF)(ex:Nat→KF)(kr:KF)(Q:Exit→Act→World→Prop),gL n fr a→rQ E N c fr k ex kr w →
  (∀fr' a' w',gL n fr' a'→f9 (iZ c) a a'→k fr' w'→Q .normal a' w') →
  (∀id fr' a' w',gL n fr' a'→f9 (iZ c) a a'→ex id fr' w'→Q (.exit id) a' w') →
  (∀fr' a' w',gL n fr' a'→f9 (iZ c) a a'→kr fr' w'→Q .ret a' w')→c.wpIn (Wd ro) m E.P Q a w:=by
 intro c
 induction c with
 | skip=>intro hnd hlt fr a w k ex kr Q hfr h hk hex hkr;exact wpIn_skip (hk fr a w hfr (f9.refl _ _) h)
 | ret=>intro hnd hlt fr a w k ex kr Q hfr h hk hex hkr;exact wpIn_ret (hkr fr a w hfr (f9.refl _ _) h)
 | exit id=>intro hnd hlt fr a w k ex kr Q hfr h hk hex hkr;exact wpIn_exit (hex id fr a w hfr (f9.refl _ _) h)
 | region id ops draw =>
  intro hnd hlt fr a w k ex kr Q hfr h hk hex hkr
  have hnd2:=Gf ops.toList hnd
  cases draw with
  | false =>
   obtain⟨ks,hks,h⟩:=jA h
   have hfr:=hfr.cut hks
   refine wpIn_mono (wpIn_region_list (MD (ML Q) _ hnd2 a w ?_)) MV
   exact sf hE (R:=f9 (iZ (.region id ops false))) (f9.refl _) (fun _ _ _=>f9.trans) _ (fun o ho a v=>f9.put a o.dst v (fun d hd=>iJ ho hd)) (fun o ho d hd=>hlt d (iJ ho hd)) _ a w k hfr h hk
  | true =>
   obtain⟨ks,hks,h⟩:=jA h
   have hfr:=hfr.cut hks
   simp only [E0] at h
   split at h <;> try exact h.elim
   rename_i hchk
   obtain⟨hs,hms,hok,hd⟩:=Dj hchk
   refine wpIn_mono (wpIn_region_any hE.mixed (ID (ML Q) hnd2 _ _ _ _ (Ai (ms:=(TR ops (N.plan id)).ms) _ [] _ _ _ ?_))) MV
   refine(Fw hE (fun i o ho d hd=>hlt d (iJ (List.mem_of_getElem? (l:=ops.toList) (i:=i) (by simpa using ho)) hd)) hms hs (Q:=Tg Q) (fun c a w h=>h) (R:=f9 (iZ (.region id ops true))) (f9.refl _) (fun _ _ _=>f9.trans)
    (fun i o ho a v=>f9.put a o.dst v (fun d hd=>iJ (List.mem_of_getElem? (l:=ops.toList) (i:=i) (by simpa using ho)) hd)) (TR ops (N.plan id)).plan.plan true _ [] _ a w.drew k _ hok ?_ hfr (by simp) h ?_).1 rfl hd
   ·intro k' o hk' hl
    rw [mI] at hl;cases hl
   ·intro fr' a' w' h1 h2 h3;exact hk fr' a' w' h1 h2 h3
 | seq x y ihx ihy =>
  intro hnd hlt fr a w k ex kr Q hfr h hk hex hkr
  simp only [rZ,Bool.and_eq_true] at hnd
  refine wpIn_seq (ihx hnd.1 (fun d hd=>hlt d (List.mem_append_left _ hd)) fr a w _ ex kr _ hfr h (fun fr' a' w' h1 h2 h3=>?_) (fun id fr' a' w' h1 h2 h3=>?_) (fun fr' a' w' h1 h2 h3=>?_))
  ·have hs:f9 (iZ (.seq x y)) a a':=h2.mono fun t ht=>List.mem_append_left _ ht
   refine ihy hnd.2 (fun d hd=>hlt d (List.mem_append_right _ hd)) fr' a' w' k ex kr Q h1 h3 (fun fr'' a'' w'' g1 g2 g3=>?_) (fun id fr'' a'' w'' g1 g2 g3=>?_) (fun fr'' a'' w'' g1 g2 g3=>?_)
   ·exact hk fr'' a'' w'' g1 (hs.trans (g2.mono fun t ht=>List.mem_append_right _ ht)) g3
   ·exact hex id fr'' a'' w'' g1 (hs.trans (g2.mono fun t ht=>List.mem_append_right _ ht)) g3
   ·exact hkr fr'' a'' w'' g1 (hs.trans (g2.mono fun t ht=>List.mem_append_right _ ht)) g3
  ·exact hex id fr' a' w' h1 (h2.mono fun t ht=>List.mem_append_left _ ht) h3
  ·exact hkr fr' a' w' h1 (h2.mono fun t ht=>List.mem_append_left _ ht) h3
 | cond cnd x y ihx ihy =>
  intro hnd hlt fr a w k ex kr Q hfr h hk hex hkr
  simp only [rZ,Bool.and_eq_true] at hnd
  obtain⟨v,hv,h⟩:=al h
  obtain⟨k',h,hk'⟩:=xT h hfr
  have hk2:∀fr' a' w',gL n fr' a'→f9 (iZ x++iZ y) a a'→k' fr' w'→Q .normal a' w':=fun fr' a' w' h1 h2 h3=>by
   obtain⟨fr'',g1,g2⟩:=hk' fr' a' w' h1 h2 h3
   exact hk fr'' a' w' g1 h2 g2
  obtain⟨t,rfl⟩:∃t,v=.bool t:=by cases v <;> first | exact⟨_,rfl⟩ | exact h.elim
  refine wpIn_cond_split (hfr.rd _ _ hv) (fun ht=>?_) (fun ht=>?_)
  ·exact ihx hnd.1 (fun d hd=>hlt d (List.mem_append_left _ hd)) fr a w k' ex kr Q hfr (h.1 ht) (fun fr' a' w' h1 h2 h3=>hk2 fr' a' w' h1 (h2.mono fun t ht=>List.mem_append_left _ ht) h3) (fun id fr' a' w' h1 h2 h3=>hex id fr' a' w' h1 (h2.mono fun t ht=>List.mem_append_left _ ht) h3)
    (fun fr' a' w' h1 h2 h3=>hkr fr' a' w' h1 (h2.mono fun t ht=>List.mem_append_left _ ht) h3)
  ·exact ihy hnd.2 (fun d hd=>hlt d (List.mem_append_right _ hd)) fr a w k' ex kr Q hfr (h.2 ht) (fun fr' a' w' h1 h2 h3=>hk2 fr' a' w' h1 (h2.mono fun t ht=>List.mem_append_right _ ht) h3) (fun id fr' a' w' h1 h2 h3=>hex id fr' a' w' h1 (h2.mono fun t ht=>List.mem_append_right _ ht) h3)
    (fun fr' a' w' h1 h2 h3=>hkr fr' a' w' h1 (h2.mono fun t ht=>List.mem_append_right _ ht) h3)
 | block id b ih =>
  intro hnd hlt fr a w k ex kr Q hfr h hk hex hkr
  obtain⟨k',h,hk'⟩:=xT (J:=N.joinB id) (ds:=iZ b) h hfr
  have hk2:∀fr' a' w',gL n fr' a'→f9 (iZ b) a a'→k' fr' w'→Q .normal a' w':=fun fr' a' w' h1 h2 h3=>by
   obtain⟨fr'',g1,g2⟩:=hk' fr' a' w' h1 h2 h3
   exact hk fr'' a' w' g1 h2 g2
  refine wpIn_block (ih hnd hlt fr a w k' _ kr _ hfr h (fun fr' a' w' h1 h2 h3=>hk2 fr' a' w' h1 h2 h3) (fun id' fr' a' w' h1 h2 h3=>?_) (fun fr' a' w' h1 h2 h3=>hkr fr' a' w' h1 h2 h3))
  simp only [Exit.inBlock]
  by_cases hid:id'=id
  ·subst hid;rw [if_pos rfl];simp only [Nat.beq_refl] at h3;exact hk2 fr' a' w' h1 h2 h3
  ·have hb:Nat.beq id' id=false:=by rw [Bool.eq_false_iff];intro hb;exact hid (Nat.eq_of_beq_eq_true hb)
   rw [if_neg hid];simp only [hb] at h3;exact hex id' fr' a' w' h1 h2 h3
 | loop b ih=>intro hnd;cases hnd
 | _=>intros;rename_i h _ _ _;exact h.elim
def t8 (W:World)(v:Value)(rows:List Nat):Prop :=
 ∃oa cap,v=.slice oa rows.length cap∧∀i p,rows[i]? = some p→∃b o cs,oa=some ⟨b,o,none⟩∧mem W b=some cs∧cs[o+i]? = some (.pointer (some ⟨p,0,none⟩))
def kJ (n:Nat):List (Fin n):=(List.finRange n).reverse
def HU (D:Nat)(K:KV):KV:=fun v W=>W.heap[D]? = some (.deferred (some []))∧K v (W.putObj D (.deferred none))
def Az (gf:Nat)(gv:Value)(body:(World→Prop)→(World→Prop)→Value→Value→World→Prop)(done ret:KV→World→Prop)(K:KV):World→Prop:=fun w =>
 ∃(c:Nat) (v:Value) (rows:List Nat) (I Ix:List (Fin rows.length)→World→Prop),
  gv=.func (.func gf) #[] #[.pointer (some ⟨c,0,none⟩)]∧rows.length≤1000000∧OwnFrom w.heap.size I∧OwnFrom w.heap.size Ix ∧
  (∀pre W,I pre W→mem W c=some [v]∧t8 W v rows)∧I [] w ∧
  (∀pre (k:Fin rows.length) W,I pre W→body (fun W'=>KeepsFrom w.heap.size W W'∧I (pre++[k]) W') (fun W'=>KeepsFrom w.heap.size W W'∧Ix (pre++[k]) W') (.int .i64 k.1) (.pointer (some ⟨rows[k.1],0,none⟩)) W) ∧
  (∀D W,w.heap.size≤D→I (kJ rows.length) W→W.heap[D]? = some (.deferred (some []))→done (HU D K) W) ∧
  (∀pre D W,w.heap.size≤D→pre <+: kJ rows.length→Ix pre W→W.heap[D]? = some (.deferred (some []))→ret (HU D K) W)
def Ub (c:Nat)(v:Value)(rows:List Nat)(W W':World):Prop:=(mem W c=some [v]→mem W' c=some [v])∧(t8 W v rows→t8 W' v rows)
def Lm (P:Program)(gf:Nat):Prop:=∀(m:Nat)(c:Nat)(v:Value)(rows:List Nat)(w0:World),mem w0 c=some [v]→t8 w0 v rows→rows.length≤1000000 →
 SeqStopsK (Wd none) m P gf #[.pointer (some ⟨c,0,none⟩)] (fun k:Fin rows.length=>#[.int .i64 k.1,.pointer (some ⟨rows[k.1],0,none⟩)]) (Ub c v rows) (fun xs=>xs=kJ rows.length) (fun pre=>pre <+: kJ rows.length) rows.length w0
abbrev Ra:Code→Bool
 | .seq a b | .cond _ a b=>Ra a || Ra b
 | .block _ b | .loop b=>Ra b
 | .rangeFunc ..=>true
 | _=>false
noncomputable abbrev RC (N:pM) (c:Code) (fr:Fr):Option Fr:=match c with
 | .region id ops false=>match nj fr (N.keep id) with
  | some ks=>match ops.toList with
   | [⟨some d,.assign (.tmp s),_,_,_,none⟩]=>match kC (gQ [] (N.keep id) ks) s with
    | some v=>some ((d,some v)::gQ [] (N.keep id) ks)
    | none=>none
   | _=>none
  | none=>none
 | _=>none
noncomputable abbrev Hs (E:An) (N:pM) (n gf:Nat):Code→Fr→(KV→KF)→(KV→KF)→KV→World→Prop
 | .seq a b,fr,kk,kr,K,w=>match Ra a with
  | true=>match rZ b with
   | true=>Hs E N n gf a fr (fun K fr w=>rQ E N b fr (fun fr w=>kk K fr w) (fun _ _ _=>False) (fun fr w=>kr K fr w) w) kr K w
   | false=>False
  | false=>match rZ a with
   | true=>rQ E N a fr (fun fr w=>Hs E N n gf b fr kk kr K w) (fun _ _ _=>False) (fun fr w=>kr K fr w) w
   | false=>False
 | .block _ (.rangeFunc (.tmp g) ps assign body),fr,kk,kr,K,w=>match ps.toList,rZ assign,rZ body,vH n (iZ assign++iZ body) with
  | [p,q],true,true,true=>match Nat.blt p n,Nat.blt q n with
   | true,true=>bz (kC fr g) fun gv=>Az gf gv (fun J R x y w=>match RC N assign ((q,some y)::(p,some x)::fr) with
     | some fr'=>rQ E N body fr' (fun _ w=>J w) (fun _ _ _=>False) (fun _ w=>R w) w
     | none=>False) (fun K w=>kk K fr w) (fun K w=>kr K fr w) K w
   | _,_=>False
  | _,_,_,_=>False
 | _,_,_,_,_,_=>False
theorem NA {E:An}{N:pM}{c:Code}{fr fr':Fr}(h:RC N c fr=some fr')(k:KF)(ex:Nat→KF)(kr:KF)(w:World)(hk:k fr' w):rQ E N c fr k ex kr w:=by
 unfold RC at h
 split at h <;> try cases h
 rename_i id ops
 split at h <;> try cases h
 rename_i ks hks
 split at h <;> try cases h
 rename_i d s T ps af hops
 split at h <;> try cases h
 rename_i v hv
 show A6 (nj fr (N.keep id)) (fun ks=>D1 E ops.toList ops.toList (gQ [] (N.keep id) ks) k w)
 rw [hks,hops]
 show bz (kC (gQ [] (N.keep id) ks) s) (fun v=>k ((d,some v)::gQ [] (N.keep id) ks) w)
 rw [hv]
 exact hk
def mark (D:Nat):Deferred:={ target:=.collected D,args:=#[] }
def MR (a:Act)(K K':KV):Prop:=(a.defers=[]∧K'=K)∨∃D,a.defers=[mark D]∧K'=HU D K
theorem MR.same {a a':Act}{K K':KV}{ds:List Nat}(h:MR a K K')(s:f9 ds a a'):MR a' K K':=by
 rcases h with ⟨h1,h2⟩ | ⟨D,h1,h2⟩
 ·exact .inl ⟨by rw [s.2.1,h1],h2⟩
 ·exact .inr ⟨D,by rw [s.2.1,h1],h2⟩
theorem LS {W:World}{l:Nat}{o o':Obj}(h:W.heap[l]? = some o)(ho:o.isCells=false)(ho':o'.isCells=false)(b:Nat):mem (W.putObj l o') b=mem W b:=by
 unfold mem
 by_cases hb:b=l
 ·subst hb
  rw [World.putObj_heap_same (Array.getElem?_eq_some_iff.1 h).1,h]
  cases o <;> cases o' <;> first | rfl | (simp [Obj.isCells] at ho ho')
 ·rw [World.putObj_heap_other hb]
theorem DK {W:World}{l b:Nat}{o o':Obj}{cs:List Value}(h:W.heap[l]? = some o)(ho:o.isCells=false)(hb:mem W b=some cs):mem (W.putObj l o') b=some cs:=by
 have hne:b≠l:=fun e=>by
  subst e
  unfold mem at hb
  rw [h] at hb
  cases o <;> first | (exact absurd (show (none:Option (List Value))=some cs from hb) (by simp)) | (exact absurd (show true=false from ho) (by simp))
 unfold mem
 rw [World.putObj_heap_other hne]
 exact hb
theorem t8.of_mem {W W':World}(hm:∀b cs,mem W b=some cs→mem W' b=some cs){v:Value}{rows:List Nat}(h:t8 W v rows):t8 W' v rows:=by
 obtain⟨oa,cap,h1,h2⟩:=h
 refine⟨oa,cap,h1,fun i p hp=>?_⟩
 obtain⟨b,o,cs,g1,g2,g3⟩:=h2 i p hp
 exact⟨b,o,cs,g1,hm _ _ g2,g3⟩
theorem gL.params {n:Nat}{fr:Fr}{a:Act}(h:gL n fr a){p q:Nat}{x y:Value}(hp:p<n)(hq:q<n) :
  gL n ((q,some y)::(p,some x)::fr) { tmps:=(a.tmps.setIfInBounds p x).setIfInBounds q y,defers:=[] }:=by
 refine⟨by simp [h.1],fun t v hv=>?_⟩
 rw [qc] at hv
 simp only at hv
 split at hv
 ·rename_i e;subst e;cases hv
  have:=h.1
  have hlt:q<a.tmps.size:=by omega
  simp [hlt]
 ·rename_i hqt
  rw [qc] at hv
  simp only at hv
  show ((a.tmps.setIfInBounds p x).setIfInBounds q y)[t]? = some v
  rw [Array.getElem?_setIfInBounds_ne hqt]
  split at hv
  ·rename_i e;subst e;cases hv
   have:=h.1
   have hlt:p<a.tmps.size:=by omega
   simp [hlt]
  ·rename_i hpt
   rw [Array.getElem?_setIfInBounds_ne hpt]
   exact h.2 t v hv
theorem Bh {n:Nat}:∀{a b:List Nat},vH n (a++b)=true→vH n a=true∧vH n b=true
 | [],b,h=>⟨rfl,h⟩
 | d::a,b,h=>by
  simp only [List.cons_append,vH,Bool.and_eq_true] at h
  obtain⟨h1,h2⟩:=Bh h.2
  exact⟨by simp only [vH,Bool.and_eq_true];exact⟨h.1,h1⟩,h2⟩
def Q8 {n:Nat}(Ix:List (Fin n)→World→Prop):Code→List (Fin n)→World→Prop
 | .ret,pre,W=>Ix pre W
 | _,_,_=>False
theorem Kt {E:An}(hE:E.OK)(N:pM){n gf:Nat}(hB:Lm E.P gf)(eg:∀args w,(callFunc gf args).run E.P w=.ok (.enter gf args) w)(m:Nat)(hm:1≤m) :
  ∀(c:Code) (_:∀d∈iZ c,d<n) (fr:Fr) (a:Act) (w:World) (kk kr:KV→KF) (K:KV) (Q:Exit→Act→World→Prop),gL n fr a→a.defers=[]→Hs E N n gf c fr kk kr K w →
  (∀K' fr' a' w',gL n fr' a'→MR a' K K'→kk K' fr' w'→Q .normal a' w') →
  (∀K' fr' a' w',gL n fr' a'→MR a' K K'→kr K' fr' w'→Q .ret a' w')→c.wpIn (Wd none) m E.P Q a w:=by
 intro c
 induction c with
 | seq x y ihx ihy =>
  intro hlt fr a w kk kr K Q hfr ha h hk hkr
  unfold Hs at h
  split at h
  ·split at h <;> try exact h.elim
   rename_i hnd
   refine wpIn_seq (ihx (fun d hd=>hlt d (List.mem_append_left _ hd)) fr a w _ _ K _ hfr ha h (fun K' fr' a' w' h1 h2 h3=>?_) (fun K' fr' a' w' h1 h2 h3=>hkr K' fr' a' w' h1 h2 h3))
   exact nM hE N none m y hnd (fun d hd=>hlt d (List.mem_append_right _ hd)) fr' a' w' _ _ _ Q h1 h3 (fun fr'' a'' w'' g1 g2 g3=>hk K' fr'' a'' w'' g1 (h2.same g2) g3) (fun _ _ _ _ _ _ g=>g.elim) (fun fr'' a'' w'' g1 g2 g3=>hkr K' fr'' a'' w'' g1 (h2.same g2) g3)
  ·split at h <;> try exact h.elim
   rename_i hnd
   refine wpIn_seq (nM hE N none m x hnd (fun d hd=>hlt d (List.mem_append_left _ hd)) fr a w _ _ _ _ hfr h (fun fr' a' w' h1 h2 h3=>?_) (fun _ _ _ _ _ _ g=>g.elim) (fun fr' a' w' h1 h2 h3=>?_))
   ·exact ihy (fun d hd=>hlt d (List.mem_append_right _ hd)) fr' a' w' kk kr K Q h1 (by rw [h2.2.1,ha]) h3 hk hkr
   ·exact hkr K fr' a' w' h1 (.inl ⟨by rw [h2.2.1,ha],rfl⟩) h3
 | block id b ih =>
  intro hlt fr a w kk kr K Q hfr ha h hk hkr
  obtain⟨g,ps,assign,body,rfl⟩:∃g ps assign body,b=.rangeFunc (.tmp g) ps assign body:=by
   cases b <;> try exact h.elim
   rename_i g ps assign body
   cases g <;> try exact h.elim
   exact⟨_,_,_,_,rfl⟩
  unfold Hs at h
  split at h <;> try exact h.elim
  rename_i p q hps hnda hndb hlts
  split at h <;> try exact h.elim
  rename_i hp hq
  have hp:=Nat.le_of_ble_eq_true hp
  have hq:=Nat.le_of_ble_eq_true hq
  obtain⟨gv,hgv,h⟩:=al h
  obtain⟨c,v,rows,I,Ix,rfl,hlen,hI,hIx,hrd,h0,hround,hdone,hret⟩:=h
  have hps':ps=#[p,q]:=Array.toList_inj.1 (by simpa using hps)
  subst hps'
  obtain⟨hlta,hltb⟩:=Bh hlts
  obtain⟨hc0,hr0⟩:=hrd _ _ h0
  refine wpIn_block (wpIn_rangeFunc_ownH (α:=Fin rows.length) (F:=Wd none) (n:=m) (g:=.tmp g) (gf:=gf) (lb:=#[.pointer (some ⟨c,0,none⟩)]) rfl hm (hfr.rd _ _ hgv) trivial eg (w0:=w) (hB (m-1) c v rows w hc0 hr0 hlen)
   (fun h1 h2=>⟨fun h=>h2.1 (h1.1 h),fun h=>h2.2 (h1.2 h)⟩) (fun W l o o' hl ho hcells _=>?_) (Below.refl _ _) (fun _=>rfl) I (Q8 Ix) hI (fun cc=>?_) h0
   (fun x a' _=>∃fr',RC N assign ((q,some (.pointer (some ⟨rows[x.1],0,none⟩)))::(p,some (.int .i64 x.1))::fr)=some fr'∧gL n fr' a'∧a'.defers=[]) (fun x a'=>ownFrom_pure _ (fun _:Unit=>_)) ?_ ?_ ?_ ?_)
  ·have hm':∀b cs,mem W b=some cs→mem (W.putObj l o') b=some cs:=fun b cs hb=>DK ho hcells hb
   exact⟨fun h=>hm' _ _ h,fun h=>h.of_mem hm'⟩
  ·intro s A B row hs hg hr
   cases cc <;> try exact hs.elim
   exact hIx s A B row hs hg hr
  ·intro l pre x W K' hi hK'
   have hb:=hround pre x W hi
   dsimp only at hb
   split at hb <;> try exact hb.elim
   rename_i fr' hf
   have hfa:=hfr.params (x:=.int .i64 x.1) (y:=.pointer (some ⟨rows[x.1],0,none⟩)) hp hq
   rw [show (Array.foldl (fun t (x:Tmp×Value)=>match x with | (p,v)=>t.setIfInBounds p v) a.tmps (#[p,q].zip #[Value.int .i64 x.1,Value.pointer (some ⟨rows[x.1],0,none⟩)]))=(a.tmps.setIfInBounds p (.int .i64 x.1)).setIfInBounds q (.pointer (some ⟨rows[x.1],0,none⟩)) by simp]
   exact nM hE N (some l) _ assign hnda (qL hlta) _ _ W (fun f w'=>f=fr'∧w'=W) (fun _ _ _=>False) (fun _ _=>False) _ hfa (NA hf _ _ _ _ ⟨rfl,rfl⟩)
    (fun f a' w' h1 h2 h3=>by
     obtain⟨rfl,rfl⟩:=h3
     exact hK' a' _ (KeepsFrom.refl _ _) ⟨fun h=>h,fun h=>h⟩ hi ⟨_,hf,h1,h2.2.1⟩) (fun _ _ _ _ _ _ g=>g.elim) (fun _ _ _ _ _ g=>g.elim)
  ·rintro l pre x a' W _ _ hi ⟨fr',hf,hfr',hd⟩ _
   have hb:=hround pre x W hi
   dsimp only at hb
   rw [hf] at hb
   exact nM hE N (some l) _ body hndb (qL hltb) fr' a' W _ _ _ _ hfr' hb (fun f a2 w2 h1 h2 h3=>⟨h3.1,⟨fun _=>(hrd _ _ h3.2).1,fun _=>(hrd _ _ h3.2).2⟩,h3.2⟩) (fun _ _ _ _ _ _ g=>g.elim) (fun f a2 w2 h1 h2 h3=>⟨h3.1,h3.2⟩)
  ·intro D xs W hD hS hi hkD
   subst hS
   exact hk (HU D K) fr _ W ⟨hfr.1,hfr.2⟩ (.inr ⟨D,by rw [ha];rfl,rfl⟩) (hdone D W hD hi hkD)
  ·intro D cc pre W hD hSp hix hkD
   cases cc <;> try exact hix.elim
   exact wpIn_ret (hkr (HU D K) fr _ W ⟨hfr.1,hfr.2⟩ (.inr ⟨D,by rw [ha];rfl,rfl⟩) (hret pre D W hD hSp hix hkD))
 | _=>intros;rename_i h _ _;exact h.elim
theorem A4 {E:An}{fr:Fr}{W W':World}(hm:∀b,mem W' b=mem W b):∀(l:List ResultVar)(k:List Value→World→Prop),GH E l fr k W→GH E l fr (fun vs w=>w=W'∧k vs W) W'
 | [],k,h=>⟨rfl,h⟩
 | .tmp t::l,k,h=>by
  obtain⟨v,hv,h⟩:=al h
  have:=A4 hm l _ h
  show bz (kC fr t) _
  rw [hv]
  exact this
 | .cell a t::l,k,h=>by
  unfold GH at h ⊢
  split at h <;> try exact h.elim
  rename_i d i hd hi
  obtain⟨p,hp,h⟩:=al h
  show bz (kC fr a) _
  rw [hp]
  show (match md d with | true=>_ | false=>_)
  split at h
  ·rename_i hg
   rw [hg]
   unfold aj at h ⊢
   split at h <;> try exact h.elim
   rename_i q o
   split at h <;> try exact h.elim
   rename_i cs hcs
   simp only [hm,hcs]
   exact⟨h.1,A4 hm l _ h.2⟩
  ·rename_i hg
   rw [hg]
   unfold ab at h ⊢
   split at h <;> try exact h.elim
   rename_i q o
   split at h <;> try exact h.elim
   rename_i cs hcs
   simp only [hm,hcs]
   unfold dn at h ⊢
   split at h <;> try exact h.elim
   rename_i v hv
   exact A4 hm l _ h
theorem P4 {E:An}{rs:List ResultVar}{fr:Fr}{K:KV}{W W':World}(hm:∀b,mem W' b=mem W b)(h:Gx E rs fr K W):Gx E rs fr (fun v w=>w=W'∧K v W) W':=by
 unfold Gx at h ⊢
 split at h
 ·obtain⟨v,hv,h⟩:=al h
  simp only [hv];exact⟨trivial,h⟩
 ·obtain⟨v,hv,h⟩:=al h
  obtain⟨v2,hv2,h⟩:=al h
  simp only [hv,hv2];exact⟨trivial,h⟩
 ·obtain⟨v,hv,h⟩:=al h
  obtain⟨v2,hv2,h⟩:=al h
  obtain⟨v3,hv3,h⟩:=al h
  simp only [hv,hv2,hv3];exact⟨trivial,h⟩
 ·exact⟨rfl,h⟩
 ·exact A4 hm _ _ h
noncomputable abbrev It (E:An) (N:pM) (gf:Nat) (fn:Func) (args:List Value) (K:KV) (w:World):Prop :=
 match fn.body with
 | some c=>match vH fn.ntmps (iZ c),Nat.ble args.length fn.ntmps with | true,true=>Hs E N fn.ntmps gf c (zx 0 args) (fun K fr w=>Gx E fn.results.toList fr K w) (fun K fr w=>Gx E fn.results.toList fr K w) K w | _,_=>False
 | none=>False
theorem Hg {E:An}{fn:Func}{K K':KV}{n:Nat}{fr:Fr}{a:Act}{w:World}(hfr:gL n fr a)(hm:MR a K K')(h:Gx E fn.results.toList fr K' w){R:Ending→World→Prop}(hR:∀v w',K v w'→R (.returned v) w') :
  LeavesInM (Wd none) 3 E.P fn a.tmps R a.defers .returning w:=by
 rcases hm with ⟨h1,rfl⟩ | ⟨D,h1,rfl⟩
 ·rw [h1]
  obtain⟨v,hv,hk⟩:=(sI (a:={ a with defers:=[] }) (fn:=fn) (E:=E) ⟨hfr.1,hfr.2⟩ rfl h).2
  exact⟨v,hv,hR _ _ hk⟩
 ·rw [h1]
  have hD:w.heap[D]? = some (.deferred (some [])):=by
   obtain⟨v,hv,hk⟩:=(sI (a:={ a with defers:=[] }) (fn:=fn) (E:=E) ⟨hfr.1,hfr.2⟩ rfl h).2
   exact hk.1
  refine⟨by simp,.inl ⟨D,_,rfl,run_takeDeferred hD,?_⟩⟩
  have h2:=P4 (W':=w.putObj D (.deferred none)) (fun b=>LS hD rfl rfl b) h
  obtain⟨v,hv,hk⟩:=(sI (a:={ a with defers:=[] }) (fn:=fn) (E:=E) ⟨hfr.1,hfr.2⟩ rfl h2).2
  exact⟨v,hv,hR _ _ hk.2.2⟩
theorem A7 {E:An}(hE:E.OK)(N:pM){gf:Nat}(hB:Lm E.P gf)(eg:∀args w,(callFunc gf args).run E.P w=.ok (.enter gf args) w){f:FuncId}{fn:Func}{args:List Value}{K:KV}{w:World}(hf:E.P.funcs[f]? = some fn)(hn:(fn.name == "runtime.NumGoroutine")=false)
  (h:It E N gf fn args K w):CP E.P f args K w:=by
 unfold It at h
 split at h <;> try exact h.elim
 rename_i c hc
 split at h <;> try exact h.elim
 rename_i hall hlen
 have hlen:=Nat.le_of_ble_eq_true hlen
 refine⟨⟨fn,hf,by rw [hc];rfl,hn⟩,(callsIn_wide (n:=3)).1 (callsIn_of_wp_marks (F:=Wd none) hf hc trivial ?_)⟩
 have hfr:gL fn.ntmps (zx 0 args) { tmps:=args.toArray++Array.replicate (fn.ntmps-args.toArray.size) undef,defers:=[] }:=by
  refine⟨by simp;omega,fun t v hv=>?_⟩
  obtain⟨_,h2⟩:=xr args 0 t v hv
  rw [Nat.sub_zero] at h2
  have:t<args.length:=by
   rcases Nat.lt_or_ge t args.length with h' | h'
   ·exact h'
   ·rw [List.getElem?_eq_none h'] at h2;cases h2
  rw [Array.getElem?_append]
  simp [this] at h2 ⊢
  simpa using h2
 refine Kt hE N hB eg 3 (by decide) c (qL hall) _ _ w _ _ K _ hfr rfl h (fun K' fr' a' w' h1 h2 h3=>?_) (fun K' fr' a' w' h1 h2 h3=>?_)
 ·exact Hg h1 h2 h3 fun v w' hk=>hk
 ·exact Hg h1 h2 h3 fun v w' hk=>hk
end Go.Proofs.YtoealglbimbbmaaGreatDoor.S
