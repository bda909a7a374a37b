import Derived.Test.YtoealglbimbbmaaGreatDoorSEval
import Derived.OrdersHeld
namespace Go.Proofs.YtoealglbimbbmaaGreatDoor.S
open Go
abbrev Fr:=List (Nat×Option Value)
abbrev KF:=Fr→World→Prop
noncomputable abbrev kD (fr:Fr) (t:Nat):Option Value:=List.rec (motive:=fun _=>Option Value) none (fun p _ ih=>cond (Nat.beq p.1 t) p.2 ih) fr
theorem qc (p:Nat×Option Value)(fr:Fr)(t:Nat):kD (p::fr) t=if p.1=t then p.2 else kD fr t:=by
 show cond (Nat.beq p.1 t) p.2 (kD fr t)=_
 by_cases h:p.1=t
 ·subst h;simp
 ·rw [if_neg h]
  have:Nat.beq p.1 t=false:=by
   rw [Bool.eq_false_iff];intro hb;exact h (Nat.eq_of_beq_eq_true hb)
  rw [this];rfl
noncomputable abbrev rd (fr:Fr):Operand→Option Value
 | .tmp t=>kD fr t
 | .const v=>some v
 | .global g=>some (.pointer (some ⟨g,0,none⟩))
 | .func f=>some (.func (.func f) #[] #[])
abbrev Pz (fr:Fr)(dst:Option Tmp)(v:Value):Fr:=match dst with | some d=>(d,some v)::fr | none=>fr
def gJ (n:Nat)(fr:Fr)(a:Act):Prop:=a.tmps.size=n∧∀t v,kD fr t=some v→a.tmps[t]? = some v
theorem gJ.rd {n:Nat}{fr:Fr}{a:Act}(h:gJ n fr a):∀x v,rd fr x=some v→a.eval x=v:=by
 intro x v hx
 cases x with
 | tmp t=>simp only [S.rd] at hx;simp [Act.eval,Array.getD_eq_getD_getElem?,h.2 t v hx]
 | const u=>simp [S.rd] at hx;exact hx
 | global g=>simp [S.rd] at hx;exact hx
 | func f=>simp [S.rd] at hx;exact hx
theorem gJ.put {n:Nat}{fr:Fr}{a:Act}(h:gJ n fr a)(dst:Option Tmp)(v:Value)(hd:∀d,dst=some d→d<n):gJ n (Pz fr dst v) (a.put dst v):=by
 cases dst with
 | none=>exact h
 | some d =>
  have hlt:=hd d rfl
  refine⟨by simp [Act.put,h.1],fun t u hu=>?_⟩
  simp only [Pz] at hu
  rw [qc] at hu
  simp only at hu
  simp only [Act.put]
  by_cases ht:d=t
  ·subst ht
   rw [if_pos rfl] at hu
   cases hu
   simp [h.1,hlt]
  ·rw [if_neg ht] at hu
   simp [ht,h.2 t u hu]
def NX (v:Value)(want:Bool):Bool:=match v with | .bool b=>b == want | _=>false
noncomputable abbrev Tw (all:List Oper) (fr:Fr) (j:Nat):Option Value:=match se all j with | some o=>(match o.dst with | some t=>kD fr t | none=>none) | none=>none
theorem xg {n:Nat}{ops:Array Oper}{fr:Fr}{a:Act}{o:Oper}{j:Nat}{want:Bool}{v:Value}(h:gJ n fr a)(hg:o.guard=some (j,want))(hv:Tw ops.toList fr j=some v) :
  Region.wanted o (yielded ops a.tmps)=NX v want:=by
 unfold Tw at hv
 split at hv
 ·rename_i oj hj
  split at hv
  ·rename_i t ht
   have:=h.2 t v hv
   rw [qq] at hj
   have hj':ops[j]? = some oj:=by simpa using hj
   simp only [Region.wanted,hg,yielded,hj',Option.bind_some,ht,this]
   cases v <;> simp [NX]
  ·cases hv
 ·cases hv
def gW (v:Value)(want:Bool)(A:KV→World→Prop)(K:KV)(w:World):Prop:=(NX v want=true→A K w)∧(NX v want=false→K undef w)
noncomputable abbrev jZ (E:Al) (all:List Oper) (fr:Fr) (o:Oper) (K:KV) (w:World):Prop :=
 match o.guard with
 | none=>dq E (rd fr) o.op K w
 | some (j,want)=>match Tw all fr j with
  | some v=>gW v want (fun K w=>dq E (rd fr) o.op K w) K w
  | none=>False
noncomputable abbrev DT (E:Al) (all:List Oper):List Oper→Fr→KF→World→Prop
 | [],fr,k,w=>k fr w
 | o::l,fr,k,w=>jZ E all fr o (fun v w=>DT E all l (Pz fr o.dst v) k w) w
section
variable {E:Al}(hE:E.OK){ops:Array Oper}
include hE
theorem E6 {n:Nat}{o:Oper}{fr:Fr}{a:Act}{K:KV}{w:World}{next:Act→World→Prop}{Q:Exit→Act→World→Prop}(hfr:gJ n fr a)(h:jZ E ops.toList fr o K w)
  (hK:∀v w',K v w'→next (a.put o.dst v) w'):if Region.wanted o (yielded ops a.tmps)=true then o.wp E.P a w next Q else next (a.put o.dst undef) w:=by
 unfold jZ at h
 split at h
 ·rename_i hg
  rw [if_pos (by simp [Region.wanted,hg])]
  exact Kh hE hfr.rd h hK
 ·rename_i j want hg
  split at h <;> try exact h.elim
  rename_i v hv
  rw [xg hfr hg hv]
  split
  ·rename_i hb;exact Kh hE hfr.rd (h.1 hb) hK
  ·rename_i hb;exact hK _ _ (h.2 (by simpa using hb))
theorem rT {n:Nat}{Q:Exit→Act→World→Prop}{R:Act→Act→Prop}(hRr:∀a,R a a)(hRt:∀a b c,R a b→R b c→R a c) :
  ∀(l:List Oper) (_:∀o∈l,∀a v,R a (a.put o.dst v)) (_:∀o∈l,∀d,o.dst=some d→d<n) (fr:Fr) (a:Act) (w:World) (k:KF),gJ n fr a→DT E ops.toList l fr k w →
  (∀fr' a' w',gJ n fr' a'→R a a'→k fr' w'→Q .normal a' w')→wpList E.P ops Q l a w
 | [],_,_,fr,a,w,k,hfr,h,hk=>hk fr a w hfr (hRr a) h
 | o::l,hRp,hlt,fr,a,w,k,hfr,h,hk=>by
  refine wpList_step fun K' hK'=>?_
  have:=E6 hE (next:=K') (Q:=Q) hfr h (fun v w' hv=>hK' _ _ (rT hRr hRt l (fun o ho=>hRp o (List.mem_cons_of_mem _ ho)) (fun o ho=>hlt o (List.mem_cons_of_mem _ ho)) _ _ w' k (hfr.put o.dst v (hlt o (by simp))) hv
   (fun fr' a' w'' h1 h2 h3=>hk fr' a' w'' h1 (hRt _ _ _ (hRp o (by simp) a v) h2) h3)))
  exact this
end
inductive Jn where
 | done
 | take (i:Nat) (rest:Jn)
 | run (j:Nat) (hs:List Nat) (rest:Jn)
 | both (p q:Jn)
abbrev md:Op→Bool
 | .load ..=>true
 | _=>false
abbrev xl:Op→Bool
 | .move _ | .assign _ | .pick .. | .binOp .. | .unOp .. | .convert .. | .extract .. | .nilCheck _ | .fieldAddr .. | .field .. | .indexAddr .. | .makeFunc .. | .build .. | .slice ..=>true
 | .call { callee:=.builtin .len,.. } | .call { callee:=.builtin .max,.. } | .call { callee:=.builtin .min,.. }=>true
 | _=>false
abbrev IM (hs:List Nat):List (Nat×(World→Prop))→World→Prop
 | [],_=>True
 | (i,S)::l,w=>(match hs.contains i with | true=>S w | false=>True)∧IM hs l w
noncomputable abbrev ow (E:Al) (all:List Oper):Jn→Fr→List (Nat×(World→Prop))→KF→World→Prop
 | .done,fr,_,k,w=>k fr w
 | .take i r,fr,tk,k,w=>match se all i with
  | some o=>jZ E all fr o (fun v w=>ow E all r (Pz fr o.dst v) (match md o.op with | true=>(i,fun w'=>jZ E all fr o (fun v' _=>v'=v) w')::tk | false=>tk) k w) w
  | none=>False
 | .run j hs r,fr,tk,k,w=>match se all j with
  | some o=>jZ E all fr o (fun v w=>IM hs tk w∧ow E all r (Pz fr o.dst v) (tk.filter fun p=>hs.contains p.1) k w) w
  | none=>False
 | .both p q,fr,tk,k,w=>ow E all p fr tk k w∧ow E all q fr tk k w
def yZ:Jn→List Nat
 | .run j _ _=>[j]
 | .both p q=>yZ p++yZ q
 | _=>[]
def depth:Jn→Nat
 | .done=>0
 | .take _ r=>depth r+1
 | .run _ _ r=>depth r+1
 | .both p q=>max (max (depth p) (depth q)) 1
def km (ops:Array Oper)(ms:List Nat):Jn→Bool→Array Bool→List Nat→Bool
 | .done,_,listed,_=>(Region.ready .any ops listed).isEmpty
 | .take i r,_,listed,tk=>match ops[i]? with
  | some o=>(xl o.op || md o.op) && (Region.ready .any ops listed).contains i && Region.free .any ops listed i && km ops ms r true (listed.setIfInBounds i true) (if md o.op=true then i::tk else tk)
  | none=>false
 | .run j hs r,top,listed,tk=>(!top || (Region.ready .any ops listed).all (· == j)) && (Region.ready .any ops listed).contains j && (tk.all fun i=>hs.contains i || ((se ms j).getD 0).testBit i) && km ops ms r true (listed.setIfInBounds j true) (tk.filter fun i=>hs.contains i)
 | .both p q,top,listed,tk=>!(Region.ready .any ops listed).isEmpty && (!top || (Region.ready .any ops listed).all (fun j=>(yZ p++yZ q).contains j)) && km ops ms p false listed tk && km ops ms q false listed tk
def L3 (ops:Array Oper)(ms:List Nat):Bool :=
 (List.range ops.size).all fun j=>(List.range ops.size).all fun i=>!((se ms j).getD 0).testBit i ||
  (match ops[j]? with | some o=>o.after.any fun e=>Region.binds .any e && decide (e.on<j) && (e.on == i || ((se ms e.on).getD 0).testBit i) | none=>false)
inductive zf where
 | done
 | take (i L:Nat) (rest:zf)
 | run (j:Nat) (hs:List Nat) (L:Nat) (rest:zf)
 | both (p q:zf)
abbrev zf.plan:zf→Jn
 | .done=>.done
 | .take i _ r=>.take i r.plan
 | .run j hs _ r=>.run j hs r.plan
 | .both p q=>.both p.plan q.plan
structure LC where
 am:List Nat
 ms:List Nat
 plan:zf
abbrev lO:List Edge→Nat
 | []=>0
 | e::l=>match Region.binds .any e with | true=>(2 ^ e.on) ||| lO l | false=>lO l
abbrev NE:List Oper→List Nat→Bool
 | [],[]=>true
 | o::l,a::as=>Nat.beq (lO o.after.toList) a && NE l as
 | _,_=>false
abbrev xp (ms:List Nat)(j:Nat):List Edge→Option Nat
 | []=>some 0
 | e::l=>match Region.binds .any e,xp ms j l with
  | true,some m=>match Nat.blt e.on j with | true=>some (((2 ^ e.on) ||| (se ms e.on).getD 0) ||| m) | false=>none
  | false,some m=>some m
  | _,none=>none
abbrev Jv (ms:List Nat):Nat→List Oper→List Nat→Bool
 | _,[],[]=>true
 | j,o::l,m::r=>(match xp ms j o.after.toList with | some c=>Nat.beq c m | none=>false) && Jv ms (j+1) l r
 | _,_,_=>false
abbrev Iw (a L i:Nat):Bool:=!(L.testBit i) && Nat.beq (a &&& L) a
abbrev A2 (L:Nat)(hs:List Nat):Nat→List Nat→Bool
 | _,[]=>true
 | i,a::as=>(!(Iw a L i) || hs.contains i) && A2 L hs (i+1) as
abbrev KA (L i:Nat)(oi:Oper)(ops:Array Oper):Nat→List Oper→List Nat→Bool
 | _,[],[]=>true
 | j,o::l,a::as=>(Nat.beq j i || L.testBit j || a.testBit i || oi.apart ops o) && KA L i oi ops (j+1) l as
 | _,_,_=>false
abbrev Cy:zf→List Nat
 | .run j _ _ _=>[j]
 | .both p q=>Cy p++Cy q
 | _=>[]
abbrev QT (ops:Array Oper)(all:List Oper)(am ms:List Nat):zf→Bool→Nat→List Nat→Bool
 | .done,_,L,_=>A2 L [] 0 am
 | .take i L' r,_,L,tk=>match se all i,se am i with
  | some o,some a=>(xl o.op || md o.op) && Iw a L i && KA L i o ops 0 all am && Nat.beq L' (L ||| 2 ^ i) && QT ops all am ms r true L' (match md o.op with | true=>i::tk | false=>tk)
  | _,_=>false
 | .run j hs L' r,top,L,tk=>match se am j with
  | some a=>(!top || A2 L [j] 0 am) && Iw a L j && (tk.all fun i=>hs.contains i || ((se ms j).getD 0).testBit i) && Nat.beq L' (L ||| 2 ^ j) && QT ops all am ms r true L' (tk.filter fun i=>hs.contains i)
  | none=>false
 | .both p q,top,L,tk=>!(A2 L [] 0 am) && (!top || A2 L (Cy p++Cy q) 0 am) && QT ops all am ms p false L tk && QT ops all am ms q false L tk
abbrev L1 (ops:Array Oper)(d:LC):Bool :=
 Region.noSelect ops && NE ops.toList d.am && Jv d.ms 0 ops.toList d.ms && QT ops ops.toList d.am d.ms d.plan true 0 [] && Nat.ble (depth d.plan.plan) ops.size
noncomputable abbrev EI (E:Al) (ops:Array Oper) (d:LC) (fr:Fr) (k:KF) (w:World):Prop :=
 match L1 ops d with | true=>ow E ops.toList d.plan.plan fr [] k w.drew | false=>False
end Go.Proofs.YtoealglbimbbmaaGreatDoor.S
namespace Go.Proofs.YtoealglbimbbmaaGreatDoor.S
open Go
section
variable {E:Al}{ρ:Operand→Option Value}
theorem zr {t:TypeId}{a:Operand}{K:KV}{w:World}(h:dq E ρ (.load t a) K w):∃v,K v w∧∀K':KV,K' v w→dq E ρ (.load t a) K' w:=by
 simp only [dq] at h
 split at h <;> try exact h.elim
 rename_i d i hd hi
 obtain⟨x,hx,h⟩:=al h
 split at h
 ·rename_i hg
  unfold aj at h
  split at h <;> try exact h.elim
  split at h <;> try exact h.elim
  rename_i cs hm
  refine⟨_,h.2,fun K' hk=>?_⟩
  simp only [dq,hd,hi,hx,ca,hg,aj,hm]
  exact⟨h.1,hk⟩
 ·rename_i hg
  unfold ab at h
  split at h <;> try exact h.elim
  split at h <;> try exact h.elim
  rename_i cs hm
  unfold dn at h
  split at h <;> try exact h.elim
  rename_i v hv
  refine⟨_,h,fun K' hk=>?_⟩
  simp only [dq,hd,hi,hx,ca,hg,ab,hm,hv,dn]
  exact hk
theorem oz {o:Option Value}{K:KV}{w:World}(h:dn o K w):∃v,o=some v∧K v w:=by
 unfold dn at h
 split at h
 ·exact⟨_,rfl,h⟩
 ·exact h.elim
theorem AM {op:BinOp}{t:Bool}{K:KV}{w:World}(h:FJ op t K w):∃v,K v w∧∀(K':KV) w',K' v w'→FJ op t K' w':=by
 unfold FJ at h
 split at h <;> first | exact⟨_,h,fun K' w' hk=>hk⟩ | exact h.elim
theorem KE {op:BinOp}{x y:Value}{K:KV}{w:World}(h:aa op x y K w):∃v,K v w∧∀(K':KV) w',K' v w'→aa op x y K' w':=by
 unfold aa at h
 split at h <;> try exact h.elim
 split at h
 ·exact⟨_,h.2,fun K' w' hk=>⟨h.1,hk⟩⟩
 ·exact⟨_,h.2,fun K' w' hk=>⟨h.1,hk⟩⟩
 ·rename_i h1 h2
  obtain⟨hk,h⟩:=h
  obtain⟨v,hv,h⟩:=oz h
  refine⟨v,h,fun K' w' hk'=>?_⟩
  unfold aa
  cases op <;> simp_all [dn]
theorem P7 {o:Op}(hp:xl o=true){K:KV}{w:World}(h:dq E ρ o K w):∃v,K v w∧∀(K':KV) w',K' v w'→dq E ρ o K' w':=by
 unfold dq at h
 split at h <;> try (simp [xl] at hp;done)
 case h_1 x=>obtain⟨v,hv,h⟩:=al h;exact⟨v,h,fun K' w' hk=>by simp only [dq,hv,ca];exact hk⟩
 case h_2 x=>obtain⟨v,hv,h⟩:=al h;exact⟨v,h,fun K' w' hk=>by simp only [dq,hv,ca];exact hk⟩
 case h_3 c x y =>
  obtain⟨c',hc,h⟩:=al h;obtain⟨x',hx,h⟩:=al h;obtain⟨y',hy,h⟩:=al h
  obtain⟨t,rfl⟩:∃t,c'=.bool t:=by cases c' <;> first | exact⟨_,rfl⟩ | exact h.elim
  exact⟨_,h,fun K' w' hk=>by simp only [dq,hc,hx,hy,ca,bd];exact hk⟩
 case h_6 t parts =>
  split at h <;> try exact h.elim
  rename_i fs i vs ht hi hvs
  split at h <;> try exact h.elim
  rename_i pl hpl
  split at h <;> try exact h.elim
  rename_i ps hps
  obtain⟨z,hz,h⟩:=al h
  unfold ap at h
  split at h <;> try exact h.elim
  rename_i cs hcs
  exact⟨_,h,fun K' w' hk=>by simp only [dq,ht,hi,hvs,hpl,hps,hz,ca,ap,hcs];exact hk⟩
 case h_10 x =>
  obtain⟨v,hv,h⟩:=al h
  unfold ai at h
  split at h <;> try exact h.elim
  ·exact⟨_,h,fun K' w' hk=>by simp only [dq,hv,ca,ai];exact hk⟩
  ·exact⟨_,h,fun K' w' hk=>by simp only [dq,hv,ca,ai];exact hk⟩
 case h_11 op t x y yt =>
  obtain⟨x',hx,h⟩:=al h;obtain⟨y',hy,h⟩:=al h
  split at h
  ·rename_i ht
   obtain⟨v,hk,hany⟩:=KE h
   exact⟨v,hk,fun K' w' hk'=>by simp only [dq,hx,hy,ca,ht];exact hany K' w' hk'⟩
  ·rename_i ht
   unfold fI at h
   split at h <;> try exact h.elim
   obtain⟨v,hk,hany⟩:=AM h
   exact⟨v,hk,fun K' w' hk'=>by simp only [dq,hx,hy,ca,ht,fI];exact hany K' w' hk'⟩
  ·rename_i ht
   unfold eW at h
   split at h <;> try exact h.elim
   all_goals
    obtain⟨v,hk,hany⟩:=AM h
    exact⟨v,hk,fun K' w' hk'=>by simp only [dq,hx,hy,ca,ht,eW];exact hany K' w' hk'⟩
  ·rename_i ht
   unfold eN at h
   split at h <;> try exact h.elim
   all_goals
    obtain⟨v,hk,hany⟩:=AM h
    exact⟨v,hk,fun K' w' hk'=>by simp only [dq,hx,hy,ca,ht,eN];exact hany K' w' hk'⟩
  ·rename_i ht
   unfold qA at h
   split at h <;> try exact h.elim
   obtain⟨v,hk,hany⟩:=AM h
   exact⟨v,hk,fun K' w' hk'=>by simp only [dq,hx,hy,ca,ht,qA];exact hany K' w' hk'⟩
  ·rename_i ht
   split at h <;> try exact h.elim
   rename_i ks hks
   unfold jb at h
   split at h <;> try exact h.elim
   obtain⟨h1,h2,h3⟩:=h
   obtain⟨v,hk,hany⟩:=AM h3
   exact⟨v,hk,fun K' w' hk'=>by simp only [dq,hx,hy,ca,ht,hks,jb];exact⟨h1,h2,hany K' w' hk'⟩⟩
  ·exact h.elim
 case h_12 t x =>
  obtain⟨v,hv,h⟩:=al h
  obtain⟨t,rfl⟩:∃t,v=.bool t:=by cases v <;> first | exact⟨_,rfl⟩ | exact h.elim
  exact⟨_,h,fun K' w' hk=>by simp only [dq,hv,ca,ga];exact hk⟩
 case h_13 src dst' x =>
  split at h <;> try exact h.elim
  rename_i k1 k2 h1 h2
  obtain⟨v,hv,h⟩:=al h
  obtain⟨kk,n,rfl⟩:∃kk n,v=.int kk n:=by cases v <;> first | exact⟨_,_,rfl⟩ | exact h.elim
  exact⟨_,h,fun K' w' hk=>by simp only [dq,h1,h2,hv,ca,ig];exact hk⟩
 case h_14 fn first cap =>
  split at h <;> try exact h.elim
  rename_i vs us h1 h2
  exact⟨_,h,fun K' w' hk=>by simp only [dq,h1,h2];exact hk⟩
 case h_16 t x lo hi =>
  split at h <;> try exact h.elim
  ·rename_i i lo' hi' hi0 h1 h2
   obtain⟨v,hv,h⟩:=al h
   unfold fM at h
   split at h <;> try exact h.elim
   split at h <;> try exact h.elim
   rename_i hb1 hb2
   obtain⟨h3,h4,h5,h⟩:=h
   exact⟨_,h,fun K' w' hk=>by simp only [dq,hi0,h1,h2,hv,ca,fM,hb1,hb2];exact⟨h3,h4,h5,hk⟩⟩
  ·rename_i lo' hi' h0 h1 h2
   split at h <;> try exact h.elim
   rename_i ht
   obtain⟨v,hv,h⟩:=al h
   unfold tI at h
   split at h <;> try exact h.elim
   obtain⟨h3,h4,h5,h⟩:=h
   exact⟨_,h,fun K' w' hk=>by simp only [dq,h0,h1,h2,ht,hv,ca,tI];exact⟨h3,h4,h5,hk⟩⟩
 case h_17 s x f =>
  split at h <;> try exact h.elim
  rename_i fs hs
  split at h <;> try exact h.elim
  rename_i fd hf
  split at h <;> try exact h.elim
  rename_i i hi
  split at h <;> try exact h.elim
  rename_i h0
  obtain⟨v,hv,h⟩:=al h
  unfold ad at h
  split at h <;> try exact h.elim
  exact⟨_,h,fun K' w' hk=>by simp only [dq,hs,hf,hi,h0,hv,ca,ad];exact hk⟩
 case h_18 s x f =>
  split at h <;> try exact h.elim
  rename_i fs hs
  split at h <;> try exact h.elim
  rename_i fd hf
  split at h <;> try exact h.elim
  rename_i i d hi hd
  obtain⟨v,hv,h⟩:=al h
  unfold oh at h
  split at h <;> try exact h.elim
  split at h
  ·rename_i hg
   exact⟨_,h,fun K' w' hk=>by simp only [dq,hs,hf,hi,hd,hv,ca,oh,hg,if_true];exact hk⟩
  ·rename_i hg
   obtain⟨u,hu,h⟩:=oz h
   exact⟨_,h,fun K' w' hk=>by simp only [dq,hs,hf,hi,hd,hv,ca,oh,if_neg hg,hu,dn];exact hk⟩
 case h_19 t x ix =>
  split at h <;> try exact h.elim
  ·rename_i e ht
   split at h <;> try exact h.elim
   rename_i i hi
   obtain⟨v,hv,h⟩:=al h;obtain⟨u,hu,h⟩:=al h
   unfold bt at h
   split at h <;> try exact h.elim
   obtain⟨h1,h2,h⟩:=h
   exact⟨_,h,fun K' w' hk=>by simp only [dq,ht,hi,hv,hu,ca,bt];exact⟨h1,h2,hk⟩⟩
  ·rename_i n e ht
   split at h <;> try exact h.elim
   rename_i i hi
   obtain⟨v,hv,h⟩:=al h;obtain⟨u,hu,h⟩:=al h
   unfold nR at h
   split at h <;> try exact h.elim
   obtain⟨h1,h2,h⟩:=h
   exact⟨_,h,fun K' w' hk=>by simp only [dq,ht,hi,hv,hu,ca,nR];exact⟨h1,h2,hk⟩⟩
 case h_20 t i =>
  obtain⟨v,hv,h⟩:=al h
  unfold ao at h
  split at h <;> try exact h.elim
  obtain⟨u,hu,h⟩:=oz h
  exact⟨_,h,fun K' w' hk=>by simp only [dq,hv,ca,ao,hu,dn];exact hk⟩
 case h_21 args ts =>
  split at h <;> try exact h.elim
  rename_i x t hx ht
  split at h <;> try exact h.elim
  rename_i e hu
  obtain⟨v,hv,h⟩:=al h
  unfold bp at h
  split at h <;> try exact h.elim
  exact⟨_,h,fun K' w' hk=>by simp only [dq,hx,ht,hu,hv,ca,bp];exact hk⟩
 case h_22 args ts =>
  split at h <;> try exact h.elim
  rename_i x l hx
  obtain⟨u,hu,h⟩:=oz h
  exact⟨_,h,fun K' w' hk=>by simp only [dq,hx,lP,hu,dn];exact hk⟩
 case h_23 args ts =>
  split at h <;> try exact h.elim
  rename_i x l hx
  obtain⟨u,hu,h⟩:=oz h
  exact⟨_,h,fun K' w' hk=>by simp only [dq,hx,iN,hu,dn];exact hk⟩
 all_goals exact h.elim
end
section
variable {P:Program}{ops:Array Oper}{Q:Exit→Act→World→Prop}
def mL (ms:List Nat)(j:Nat)(tk:List (Nat×(World→Prop))):List (Nat×(World→Prop)):=tk.filter fun p=>!((se ms j).getD 0).testBit p.1
def qX (P:Program)(ops:Array Oper)(Q:Exit→Act→World→Prop)(ms:List Nat):List (Nat×(World→Prop))→Nat→Array Bool→Act→World→Prop
 | _,0,listed,a,w=>Region.ready .any ops listed=[]∧Q .normal a w
 | tk,fuel+1,listed,a,w=>(Region.ready .any ops listed=[]→Q .normal a w) ∧
  ∀i∈Region.ready .any ops listed,wpOp P ops Q i (fun a' w'=>(∀p∈mL ms i tk,p.2 w')∧qX P ops Q ms (mL ms i tk) fuel (listed.setIfInBounds i true) a' w') a w
theorem Ag {ms:List Nat}:∀(fuel:Nat)(tk:List (Nat×(World→Prop)))(listed:Array Bool)(a:Act)(w:World),qX P ops Q ms tk fuel listed a w→wpAny P .any ops Q fuel listed a w
 | 0,_,_,_,_,h=>h
 | fuel+1,_,_,_,_,h=>⟨h.1,fun i hi=>wpOp_mono (fun a' w' h'=>Ag fuel _ _ a' w' h'.2) (h.2 i hi)⟩
theorem tq {ms:List Nat}:∀(fuel:Nat)(tk tk':List (Nat×(World→Prop)))(_:∀p∈tk',p∈tk∨∀w,p.2 w)(listed:Array Bool)(a:Act)(w:World),qX P ops Q ms tk fuel listed a w→qX P ops Q ms tk' fuel listed a w
 | 0,_,_,_,_,_,_,h=>h
 | fuel+1,tk,tk',hs,_,_,_,h=>by
  have hd:∀i,∀p∈mL ms i tk',p∈mL ms i tk∨∀w,p.2 w:=fun i p hp=>by
   simp only [mL,List.mem_filter] at hp ⊢
   exact(hs p hp.1).imp (fun hm=>⟨hm,hp.2⟩) id
  exact⟨h.1,fun i hi=>wpOp_mono (fun a' w' h'=>⟨fun p hp=>(hd i p hp).elim (fun hm=>h'.1 p hm) (fun ht=>ht w'),tq fuel _ _ (hd i) _ a' w' h'.2⟩) (h.2 i hi)⟩
def BX (ops:Array Oper)(listed:Array Bool):Prop:=∀k o,ops[k]? = some o→listed.getD k false=true→∀e∈o.after,Region.binds .any e=true→listed.getD e.on false=true
theorem BX.set {listed:Array Bool}{i:Nat}(h:BX ops listed)(hi:i∈Region.ready .any ops listed):BX ops (listed.setIfInBounds i true):=by
 intro k o hk hl e he hb
 have key:listed.getD e.on false=true→(listed.setIfInBounds i true).getD e.on false=true:=getD_set_true
 by_cases hik:i=k
 ·subst hik
  obtain⟨_,o',ho',hall⟩:=mem_ready.1 hi
  rw [ho'] at hk;cases hk
  exact key (hall e he hb)
 ·rw [getD_set_ne false hik] at hl
  exact key (h k o hk hl e he hb)
theorem O3 {ms:List Nat}(hms:L3 ops ms=true){listed:Array Bool}(hc:BX ops listed):∀(j i:Nat),j<ops.size→i<ops.size→((se ms j).getD 0).testBit i=true →
  (∀o,ops[j]? = some o→∀e∈o.after,Region.binds .any e=true→listed.getD e.on false=true)→listed.getD i false=true:=by
 intro j
 induction j using Nat.strongRecOn with
 | _ j ih =>
  intro i hj hi hb hall
  simp only [L3,List.all_eq_true,List.mem_range] at hms
  have:=hms j hj i hi
  rw [hb] at this
  simp only [Bool.not_true,Bool.false_or] at this
  split at this
  ·rename_i o ho
   simp only [Array.any_eq_true,Bool.and_eq_true,Bool.or_eq_true,decide_eq_true_eq,beq_iff_eq] at this
   obtain⟨x,hx,⟨hbe,hlt⟩,hor⟩:=this
   have hl:=hall o ho _ (Array.getElem_mem hx) hbe
   rcases hor with heq | htb
   ·rw [heq] at hl;exact hl
   ·have hk:o.after[x].on<ops.size:=by omega
    exact ih _ hlt i hk hi htb (fun o' ho' e he hb=>hc _ o' ho' hl e he hb)
  ·cases this
theorem HD {ms:List Nat}(hms:L3 ops ms=true){i:Nat}{oi:Oper}{v:Value}{S:World→Prop}(hi:ops[i]? = some oi)(hsel:∀(j:Nat)(o:Oper) cs b,ops[j]? = some o→o.op≠.select cs b)
  (hQ:∀c a w,Q (.panic c) (a.put oi.dst v) w→Q (.panic c) a w) :
  ∀(fuel:Nat) (tk:List (Nat×(World→Prop))) (listed:Array Bool) (a:Act) (w:World),
   (∀j oj,ops[j]? = some oj→j≠i→listed.getD j true=false→(∀e∈oj.after,Region.binds .any e=true→e.on≠i)→oi.apart ops oj=true) →
   BX ops listed→i∈Region.ready .any ops listed→YieldsIf P ops S oi v a→S w→(∀p∈tk,p.2 w) →
   qX P ops Q ms ((i,S)::tk) fuel (listed.setIfInBounds i true) (a.put oi.dst v) w→qX P ops Q ms tk (fuel+1) listed a w:=by
 intro fuel
 induction fuel with
 | zero =>
  intro tk listed a w _ _ hr hy hS ht H
  refine⟨fun h=>(by rw [h] at hr;cases hr),fun j hj=>?_⟩
  by_cases hji:j=i
  ·subst hji;exact hy.wpOp hi hS ⟨fun p hp=>ht p (List.mem_filter.1 hp).1,H⟩
  ·have:=ready_mono hj hji
   rw [H.1] at this
   cases this
 | succ fuel ih =>
  intro tk listed a w hfree hcl hr hy hS ht H
  refine⟨fun h=>(by rw [h] at hr;cases hr),fun j hj=>?_⟩
  by_cases hji:j=i
  ·subst hji
   exact hy.wpOp hi hS ⟨fun p hp=>ht p (List.mem_filter.1 hp).1,tq _ _ _ (fun p hp=>.inl (List.mem_cons_of_mem _ (List.mem_filter.1 hp).1)) _ _ _ H⟩
  ·have h1:=H.2 j (ready_mono hj hji)
   obtain⟨hjun,oj,hoj,hall⟩:=mem_ready.1 hj
   have hun:listed.getD i false=false:=by
    have h0:=(mem_ready.1 hr).1
    rcases Nat.lt_or_ge i listed.size with h' | h'
    ·simpa [h'] using h0
    ·simp [Array.getElem?_eq_none h'] at h0
   have hnot:∀e∈oj.after,Region.binds .any e=true→e.on≠i:=fun e he hb heq=>by
    have h1:=hall e he hb
    rw [heq,hun] at h1;cases h1
   have hisz:i<ops.size:=by
    rcases Nat.lt_or_ge i ops.size with h' | h'
    ·exact h'
    ·simp [Array.getElem?_eq_none h'] at hi
   have hjsz:j<ops.size:=by
    rcases Nat.lt_or_ge j ops.size with h' | h'
    ·exact h'
    ·simp [Array.getElem?_eq_none h'] at hoj
   have hbit:((se ms j).getD 0).testBit i=false:=by
    cases hb:((se ms j).getD 0).testBit i with
    | false=>rfl
    | true =>
     have:=O3 hms hcl j i hjsz hisz hb (fun o ho e he hb=>by rw [hoj] at ho;cases ho;exact hall e he hb)
     rw [hun] at this;cases this
   have h2:=wpOp_putIf hoj (hfree j oj hoj hji hjun hnot) (fun cs b=>hsel i oi cs b hi) (fun cs b=>hsel j oj cs b hoj) hQ hy h1
   have hfree':∀k ok,ops[k]? = some ok→k≠i→(listed.setIfInBounds j true).getD k true=false →
     (∀e∈ok.after,Region.binds .any e=true→e.on≠i)→oi.apart ops ok=true:=fun k ok hk hki hun hno=>by
    refine hfree k ok hk hki ?_ hno
    by_cases hjk:j=k
    ·subst hjk;exact hjun
    ·rw [getD_set_ne true hjk] at hun;exact hun
   have hdr:mL ms j ((i,S)::tk)=(i,S)::mL ms j tk:=by simp [mL,hbit]
   rw [hdr] at h2
   refine wpOp_mono (fun a' w' h3=>⟨fun p hp=>h3.2.1 p (List.mem_cons_of_mem _ hp),?_⟩) h2
   refine ih _ (listed.setIfInBounds j true) a' w' hfree' (hcl.set hj) (ready_mono hr (Ne.symm hji)) h3.1 (h3.2.1 (i,S) (by simp)) (fun p hp=>h3.2.1 p (List.mem_cons_of_mem _ hp)) ?_
   rw [Array.setIfInBounds_comm _ _ hji]
   exact h3.2.2
end
theorem Dk {hs:List Nat}:∀{tk:List (Nat×(World→Prop))}{w:World},IM hs tk w→∀q∈tk,hs.contains q.1=true→q.2 w
 | [],_,_,q,hq,_=>by cases hq
 | (i,S)::l,w,h,q,hq,hc=>by
  rcases List.mem_cons.1 hq with rfl | hq
  ·have hc':hs.contains i=true:=hc
   have:=h.1;rw [hc'] at this;exact this
  ·exact Dk h.2 q hq hc
section
variable {E:Al}(hE:E.OK){ops:Array Oper}
include hE
theorem C9 {o:Oper}{a:Act}{ρ:Operand→Option Value}(hρ:∀x v,ρ x=some v→a.eval x=v){K:KV}{w:World}(hp:xl o.op=true)(h:dq E ρ o.op K w) :
  ∃v,K v w∧∀w',(execOp a.eval o).run E.P w'=.ok (.value v) w':=by
 obtain⟨v,hk,hany⟩:=P7 hp h
 refine⟨v,hk,fun w'=>?_⟩
 have hpl:rN o.op=true:=by
  revert hp;cases o.op <;> simp [xl,rN]
  rename_i c;cases c with | mk cal args ts=>cases cal <;> simp
 obtain⟨v',w'',hr,h1,h2⟩:=BZ hE hρ (K:=fun v' w''=>v'=v∧w''=w') hpl (hany _ w' ⟨rfl,rfl⟩)
 subst h1;subst h2;exact hr
theorem C2 {o:Oper}{a:Act}{ρ:Operand→Option Value}(hρ:∀x v,ρ x=some v→a.eval x=v){v:Value}{w:World}(hp:md o.op=true)(h:dq E ρ o.op (fun v' _=>v'=v) w) :
  (execOp a.eval o).run E.P w=.ok (.value v) w:=by
 obtain⟨dst,op,type,pos,after,guard⟩:=o
 cases op <;> simp [md] at hp
 obtain⟨v',rfl,hall⟩:=zr h
 obtain⟨u,w'',hr,h1,h2⟩:=BZ hE (o:=⟨dst,_,type,pos,after,guard⟩) hρ (K:=fun u w''=>u=v'∧w''=w) rfl (hall _ ⟨rfl,rfl⟩)
 subst h1;subst h2;exact hr
theorem LK {n:Nat}{o:Oper}{fr:Fr}{a:Act}{K:KV}{w:World}(hfr:gJ n fr a)(hq:(xl o.op || md o.op)=true)(h:jZ E ops.toList fr o K w) :
  ∃v,K v w∧if md o.op=true then YieldsIf E.P ops (fun w'=>jZ E ops.toList fr o (fun v' _=>v'=v) w') o v a∧jZ E ops.toList fr o (fun v' _=>v'=v) w else YieldsIf E.P ops (fun _=>True) o v a:=by
 cases hl:md o.op with
 | true =>
  simp only [if_true]
  unfold jZ at h
  cases hg:o.guard with
  | none =>
   simp only [hg] at h
   obtain⟨v,hk,hv⟩:∃v,K v w∧dq E (rd fr) o.op (fun v' _=>v'=v) w:=by
    revert h hl;cases o.op <;> simp [md]
    intro h;obtain⟨v,hk,hall⟩:=zr h;exact⟨v,hk,hall _ rfl⟩
   refine⟨v,hk,.inl ⟨by simp [Region.wanted,hg],fun w' hS=>?_⟩,by unfold jZ;simp only [hg];exact hv⟩
   unfold jZ at hS;simp only [hg] at hS
   exact C2 hE hfr.rd hl hS
  | some g =>
   obtain⟨j,want⟩:=g
   simp only [hg] at h
   split at h <;> try exact h.elim
   rename_i gv hgv
   have hw:=xg hfr hg hgv
   cases hb:NX gv want with
   | true =>
    have h:=h.1 hb
    obtain⟨v,hk,hv⟩:∃v,K v w∧dq E (rd fr) o.op (fun v' _=>v'=v) w:=by
     revert h hl;cases o.op <;> simp [md]
     intro h;obtain⟨v,hk,hall⟩:=zr h;exact⟨v,hk,hall _ rfl⟩
    refine⟨v,hk,.inl ⟨by rw [hw,hb],fun w' hS=>?_⟩,?_⟩
    ·unfold jZ at hS;simp only [hg,hgv] at hS
     exact C2 hE hfr.rd hl (hS.1 hb)
    ·unfold jZ;simp only [hg,hgv];exact⟨fun _=>hv,fun hf=>absurd (hb ▸ hf:true=false) (by decide)⟩
   | false =>
    refine⟨undef,h.2 hb,.inr ⟨by rw [hw,hb],rfl⟩,?_⟩
    unfold jZ;simp only [hg,hgv];exact⟨fun hf=>absurd (hb ▸ hf:false=true) (by decide),fun _=>rfl⟩
 | false =>
  simp only [Bool.false_eq_true,if_false]
  have hp:xl o.op=true:=by simpa [hl] using hq
  unfold jZ at h
  cases hg:o.guard with
  | none =>
   simp only [hg] at h
   obtain⟨v,hk,hr⟩:=C9 hE hfr.rd hp h
   exact⟨v,hk,.inl ⟨by simp [Region.wanted,hg],fun w' _=>hr w'⟩⟩
  | some g =>
   obtain⟨j,want⟩:=g
   simp only [hg] at h
   split at h <;> try exact h.elim
   rename_i gv hgv
   have hw:=xg hfr hg hgv
   cases hb:NX gv want with
   | true =>
    obtain⟨v,hk,hr⟩:=C9 hE hfr.rd hp (h.1 hb)
    exact⟨v,hk,.inl ⟨by rw [hw,hb],fun w' _=>hr w'⟩⟩
   | false=>exact⟨undef,h.2 hb,.inr ⟨by rw [hw,hb],rfl⟩⟩
theorem ED {n:Nat}(hlt:∀(i:Nat)(o:Oper),ops[i]? = some o→∀d,o.dst=some d→d<n){ms:List Nat}(hms:L3 ops ms=true)(hsel:Region.noSelect ops=true){Q:Exit→Act→World→Prop}(hQp:∀c a w,¬Q (.panic c) a w)
  {R:Act→Act→Prop} (hRr:∀a,R a a) (hRt:∀a b c,R a b→R b c→R a c) (hRp:∀(i:Nat) (o:Oper),ops[i]? = some o→∀a v,R a (a.put o.dst v)) :
  ∀(p:Jn) (top:Bool) (listed:Array Bool) (tk:List (Nat×(World→Prop))) (fr:Fr) (a:Act) (w:World) (k:KF) (fuel:Nat),
   km ops ms p top listed (tk.map (·.1))=true→BX ops listed→gJ n fr a→(∀q∈tk,q.2 w)→ow E ops.toList p fr tk k w →
   (∀fr' a' w',gJ n fr' a'→R a a'→k fr' w'→Q .normal a' w') →
   (top=true→depth p≤fuel→qX E.P ops Q ms tk fuel listed a w) ∧
   (depth p≤fuel+1→∀j∈yZ p,wpOp E.P ops Q j (fun a' w'=>(∀q∈mL ms j tk,q.2 w')∧qX E.P ops Q ms (mL ms j tk) fuel (listed.setIfInBounds j true) a' w') a w):=by
 intro p
 induction p with
 | done =>
  intro top listed tk fr a w k fuel hok hcl hfr htk h hk
  refine⟨fun _ _=>?_,fun _ j hj=>by cases hj⟩
  have hr:Region.ready .any ops listed=[]:=by simpa [km] using hok
  have hq:=hk fr a w hfr (hRr a) h
  cases fuel with
  | zero=>exact⟨hr,hq⟩
  | succ n=>exact⟨fun _=>hq,by rw [hr];simp⟩
 | take i r ih =>
  intro top listed tk fr a w k fuel hok hcl hfr htk h hk
  refine⟨fun _ hd=>?_,fun _ j hj=>by cases hj⟩
  simp only [km] at hok
  split at hok
  ·rename_i o ho
   simp only [Bool.and_eq_true] at hok
   obtain⟨⟨⟨hq,hr⟩,hf⟩,hok⟩:=hok
   have ho':se ops.toList i=some o:=by rw [qq];simpa using ho
   simp only [ow,ho'] at h
   obtain⟨v,hkv,hy⟩:=LK hE hfr hq h
   have hr':i∈Region.ready .any ops listed:=by simpa using hr
   cases fuel with
   | zero=>simp [depth] at hd
   | succ m =>
    have hd':depth r≤m:=by simp only [depth] at hd;omega
    have hdef:=hRp i o ho a v
    cases hl:md o.op with
    | true =>
     simp only [hl,if_true] at hy hkv hok
     refine HD hms ho (Region.noSelect_spec hsel) (fun c a w hp=>(hQp c _ w hp).elim) m tk listed a w (Region.free_spec ho hf) hcl hr' hy.1 hy.2 htk ?_
     exact(ih true _ ((i,_)::tk) _ _ w k m hok (hcl.set hr') (hfr.put o.dst v (hlt i o ho)) (fun q hq=>(List.mem_cons.1 hq).elim (fun e=>by subst e;exact hy.2) (htk q)) hkv
      (fun fr' a' w' h1 h2 h3=>hk fr' a' w' h1 (hRt _ _ _ hdef h2) h3)).1 rfl hd'
    | false =>
     simp only [hl,Bool.false_eq_true,if_false] at hy hkv hok
     refine HD hms ho (Region.noSelect_spec hsel) (fun c a w hp=>(hQp c _ w hp).elim) m tk listed a w (Region.free_spec ho hf) hcl hr' hy trivial htk ?_
     refine tq m tk _ (fun q hq=>(List.mem_cons.1 hq).elim (fun e=>.inr fun w=>by subst e;trivial) .inl) _ _ _ ?_
     exact(ih true _ tk _ _ w k m hok (hcl.set hr') (hfr.put o.dst v (hlt i o ho)) htk hkv (fun fr' a' w' h1 h2 h3=>hk fr' a' w' h1 (hRt _ _ _ hdef h2) h3)).1 rfl hd'
  ·cases hok
 | run j hs r ih =>
  intro top listed tk fr a w k fuel hok hcl hfr htk h hk
  simp only [km,Bool.and_eq_true] at hok
  obtain⟨⟨⟨htop,hr⟩,hall⟩,hok⟩:=hok
  have hr':j∈Region.ready .any ops listed:=by simpa using hr
  obtain⟨_,o,ho,_⟩:=mem_ready.1 hr'
  have ho':se ops.toList j=some o:=by rw [qq];simpa using ho
  simp only [ow,ho'] at h
  have key:∀m,depth r≤m→wpOp E.P ops Q j (fun a' w'=>(∀q∈mL ms j tk,q.2 w')∧qX E.P ops Q ms (mL ms j tk) m (listed.setIfInBounds j true) a' w') a w:=by
   intro m hn
   have hdrop:∀q∈mL ms j tk,hs.contains q.1=true:=by
    intro q hq
    simp only [mL,List.mem_filter,Bool.not_eq_true'] at hq
    simp only [List.all_eq_true] at hall
    have:=hall q.1 (List.mem_map_of_mem hq.1)
    rw [hq.2,Bool.or_false] at this;exact this
   have hstep:=E6 hE (ops:=ops) (Q:=Q) (next:=fun a' w'=>(∀q∈mL ms j tk,q.2 w')∧qX E.P ops Q ms (mL ms j tk) m (listed.setIfInBounds j true) a' w') hfr h (fun v w' hv=>by
    obtain⟨hheld,hv⟩:=hv
    have hmem:=Dk hheld
    refine⟨fun q hq=>hmem q (List.mem_filter.1 hq).1 (hdrop q hq),?_⟩
    refine tq m (tk.filter fun p=>hs.contains p.1) _ (fun q hq=>.inl (List.mem_filter.2 ⟨(List.mem_filter.1 hq).1,hdrop q hq⟩)) _ _ _ ?_
    have hok':km ops ms r true (listed.setIfInBounds j true) ((tk.filter fun p=>hs.contains p.1).map (·.1))=true:=by
     have he:(tk.filter fun p=>hs.contains p.1).map (·.1)=(tk.map (·.1)).filter fun i=>hs.contains i:=by rw [List.filter_map];rfl
     rw [he];exact hok
    exact(ih true _ _ _ _ w' k m hok' (hcl.set hr') (hfr.put o.dst v (hlt j o ho)) (fun q hq=>hmem q (List.mem_filter.1 hq).1 (List.mem_filter.1 hq).2) hv
     (fun fr' a' w'' h1 h2 h3=>hk fr' a' w'' h1 (hRt _ _ _ (hRp j o ho a v) h2) h3)).1 rfl hn)
   unfold wpOp
   simp only [ho]
   split
   ·rename_i hw;rw [if_pos hw] at hstep;exact .inl hstep
   ·rename_i hw;rw [if_neg hw] at hstep;exact hstep
  refine⟨fun ht hd=>?_,fun hd j' hj'=>?_⟩
  ·cases fuel with
   | zero=>simp [depth] at hd
   | succ n =>
    refine⟨fun he=>(by rw [he] at hr';cases hr'),fun j' hj'=>?_⟩
    rw [ht] at htop
    simp only [Bool.not_true,Bool.false_or,List.all_eq_true,beq_iff_eq] at htop
    rw [htop j' hj']
    exact key _ (by simp only [depth] at hd;omega)
  ·simp only [yZ,List.mem_singleton] at hj'
   subst hj'
   exact key fuel (by simp only [depth] at hd;omega)
 | both p q ihp ihq =>
  intro top listed tk fr a w k fuel hok hcl hfr htk h hk
  simp only [km,Bool.and_eq_true] at hok
  obtain⟨⟨⟨hne,htop⟩,hp⟩,hq⟩:=hok
  have key:∀n,depth (.both p q)≤n+1→∀j∈yZ p++yZ q,wpOp E.P ops Q j (fun a' w'=>(∀q∈mL ms j tk,q.2 w')∧qX E.P ops Q ms (mL ms j tk) n (listed.setIfInBounds j true) a' w') a w:=by
   intro n hn j hj
   simp only [depth] at hn
   rcases List.mem_append.1 hj with hj | hj
   ·exact(ihp false listed tk fr a w k n hp hcl hfr htk h.1 hk).2 (by omega) j hj
   ·exact(ihq false listed tk fr a w k n hq hcl hfr htk h.2 hk).2 (by omega) j hj
  refine⟨fun ht hd=>?_,fun hd j hj=>key fuel hd j hj⟩
  cases fuel with
  | zero=>simp only [depth] at hd;omega
  | succ n =>
   refine⟨fun he=>?_,fun j' hj'=>?_⟩
   ·rw [he] at hne;simp at hne
   ·rw [ht] at htop
    simp only [Bool.not_true,Bool.false_or,List.all_eq_true] at htop
    exact key n (by omega) j' (by simpa using htop j' hj')
end
theorem pR:∀(l:List Edge)(i:Nat),(lO l).testBit i=true↔∃e∈l,Region.binds .any e=true∧e.on=i
 | [],i=>by simp [lO]
 | e::l,i=>by
  have ih:=pR l i
  simp only [lO]
  cases hb:Region.binds .any e with
  | true=>simp [hb,Nat.testBit_or,ih,Nat.testBit_two_pow]
  | false=>simp [hb,ih]
theorem ya:∀{l:List Oper}{am:List Nat},NE l am=true→am=l.map fun o=>lO o.after.toList
 | [],[],_=>rfl
 | [],_::_,h=>by cases h
 | _::_,[],h=>by cases h
 | o::l,a::am,h=>by
  simp only [NE,Bool.and_eq_true] at h
  rw [List.map_cons,←ya h.2,Nat.eq_of_beq_eq_true h.1]
theorem tL {ms:List Nat}{j:Nat}:∀{l:List Edge}{c:Nat},xp ms j l=some c→∀i,c.testBit i=true→∃e∈l,Region.binds .any e=true∧e.on<j∧(e.on=i∨((se ms e.on).getD 0).testBit i=true)
 | [],c,h,i,hi=>by simp only [xp,Option.some.injEq] at h;subst h;simp at hi
 | e::l,c,h,i,hi=>by
  simp only [xp] at h
  split at h
  ·rename_i m hb hm
   split at h
   ·rename_i hlt
    cases h
    simp only [Nat.testBit_or,Bool.or_eq_true,Nat.testBit_two_pow,decide_eq_true_eq] at hi
    rcases hi with hi | hi
    ·exact⟨e,by simp,hb,Nat.le_of_ble_eq_true hlt,hi⟩
    ·obtain⟨e',he',h'⟩:=tL hm i hi
     exact⟨e',List.mem_cons_of_mem _ he',h'⟩
   ·cases h
  ·rename_i m hb hm
   cases h
   obtain⟨e',he',h'⟩:=tL hm i hi
   exact⟨e',List.mem_cons_of_mem _ he',h'⟩
  ·cases h
theorem FH {ms:List Nat}:∀{j:Nat}{l:List Oper}{r:List Nat},Jv ms j l r=true→∀k o,l[k]? = some o→∀i,((se r k).getD 0).testBit i=true →
  ∃e∈o.after.toList,Region.binds .any e=true∧e.on<j+k∧(e.on=i∨((se ms e.on).getD 0).testBit i=true)
 | j,[],r,h,k,o,ho,i,hi=>by simp at ho
 | j,o'::l,[],h,k,o,ho,i,hi=>by cases h
 | j,o'::l,m::r,h,k,o,ho,i,hi=>by
  simp only [Jv,Bool.and_eq_true] at h
  obtain⟨h1,h2⟩:=h
  cases k with
  | zero =>
   simp at ho;subst ho
   split at h1
   ·rename_i c hc
    have:=Nat.eq_of_beq_eq_true h1
    subst this
    exact tL hc i (by simpa [se] using hi)
   ·cases h1
  | succ k =>
   have:=FH h2 k o (by simpa using ho) i (by simpa [se] using hi)
   rw [show j+(k+1)=j+1+k by omega];exact this
theorem Oy {ops:Array Oper}{ms:List Nat}(h:Jv ms 0 ops.toList ms=true):L3 ops ms=true:=by
 simp only [L3,List.all_eq_true,List.mem_range,Bool.or_eq_true,Bool.not_eq_true']
 intro j hj i _
 cases hb:((se ms j).getD 0).testBit i with
 | false=>exact .inl rfl
 | true =>
  refine .inr ?_
  have ho:ops[j]? = some ops[j]:=Array.getElem?_eq_getElem hj
  obtain⟨e,he,hbd,hlt,hor⟩:=FH h j ops[j] (by simp) i hb
  simp only [ho,Array.any_eq_true',Bool.and_eq_true,Bool.or_eq_true,decide_eq_true_eq,beq_iff_eq]
  exact⟨e,by simpa using he,⟨hbd,by omega⟩,hor⟩
def B4 (n:Nat)(listed:Array Bool)(L:Nat):Prop:=listed.size=n∧(∀k,listed.getD k false=true↔k<n∧L.testBit k=true)∧∀k,L.testBit k=true→k<n
theorem B4.set {n:Nat}{listed:Array Bool}{L i:Nat}(h:B4 n listed L)(hi:i<n):B4 n (listed.setIfInBounds i true) (L ||| 2 ^ i):=by
 refine⟨by simp [h.1],fun k=>?_,fun k hk=>?_⟩
 ·by_cases hik:i=k
  ·subst hik
   simp [Array.getD_eq_getD_getElem?,h.1,hi,Nat.testBit_or]
  ·rw [getD_set_ne false hik,h.2.1 k]
   simp [Nat.testBit_or,hik]
 ·simp only [Nat.testBit_or,Bool.or_eq_true,Nat.testBit_two_pow,decide_eq_true_eq] at hk
  rcases hk with hk | hk
  ·exact h.2.2 k hk
  ·omega
theorem Rc {a L:Nat}:Nat.beq (a &&& L) a=true↔∀k,a.testBit k=true→L.testBit k=true:=by
 constructor
 ·intro h k hk
  have:=Nat.eq_of_beq_eq_true h
  rw [←this,Nat.testBit_and,Bool.and_eq_true] at hk
  exact hk.2
 ·intro h
  have:a &&& L=a:=by
   apply Nat.eq_of_testBit_eq
   intro k
   rw [Nat.testBit_and]
   cases hk:a.testBit k with
   | false=>rfl
   | true=>rw [h k hk];rfl
  rw [this];exact Nat.beq_refl a
section
variable {ops:Array Oper}{am:List Nat}(ham:NE ops.toList am=true){listed:Array Bool}{L:Nat}(hb:B4 ops.size listed L)
include ham hb
theorem DW {i a:Nat}(ha:se am i=some a):Iw a L i=true↔i∈Region.ready .any ops listed:=by
 have hm:=ya ham
 rw [qq,hm,List.getElem?_map] at ha
 simp only [Option.map_eq_some_iff] at ha
 obtain⟨o,ho,rfl⟩:=ha
 have ho':ops[i]? = some o:=by simpa using ho
 have hi:i<ops.size:=(Array.getElem?_eq_some_iff.1 ho').1
 rw [mem_ready]
 simp only [Iw,Bool.and_eq_true,Bool.not_eq_true',Rc]
 constructor
 ·rintro⟨h1,h2⟩
  refine⟨?_,o,ho',fun e he hbd=>(hb.2.1 e.on).2 ?_⟩
  ·have:¬listed.getD i false=true:=fun h=>by rw [((hb.2.1 i).1 h).2] at h1;cases h1
   have hsz:=hb.1
   simp only [Array.getD_eq_getD_getElem?] at this ⊢
   rw [Array.getElem?_eq_getElem (by omega)] at this ⊢
   simpa using this
  ·have:=h2 e.on ((pR _ _).2 ⟨e,by simpa using he,hbd,rfl⟩)
   exact⟨hb.2.2 _ this,this⟩
 ·rintro⟨h1,o',ho'',hall⟩
  rw [ho'] at ho'';cases ho''
  refine⟨?_,fun k hk=>?_⟩
  ·cases hL:L.testBit i with
   | false=>rfl
   | true =>
    have:=(hb.2.1 i).2 ⟨hi,hL⟩
    simp only [Array.getD_eq_getD_getElem?] at this h1
    have hsz:=hb.1
    rw [Array.getElem?_eq_getElem (by omega)] at this h1
    simp at this h1;rw [this] at h1;cases h1
  ·obtain⟨e,he,hbd,rfl⟩:=(pR _ _).1 hk
   exact((hb.2.1 e.on).1 (hall e (by simpa using he) hbd)).2
theorem xT {hs:List Nat}:∀{i:Nat}{as:List Nat},A2 L hs i as=true→(∀k,se as k=se am (i+k))→∀j,i≤j→j∈Region.ready .any ops listed→hs.contains j=true
 | i,[],h,hk,j,hij,hj=>by
  obtain⟨_,o,ho,_⟩:=mem_ready.1 hj
  have hm:=ya ham
  have h1:=hk (j-i)
  rw [show i+(j-i)=j by omega,qq,qq,hm,List.getElem?_map] at h1
  have:ops.toList[j]? = some o:=by simpa using ho
  rw [this] at h1;simp at h1
 | i,a::as,h,hk,j,hij,hj=>by
  simp only [A2,Bool.and_eq_true] at h
  by_cases he:j=i
  ·subst he
   have h0:=hk 0
   simp only [se,Nat.add_zero] at h0
   have hr:=(DW ham hb h0.symm).2 hj
   have h1:=h.1
   rw [hr] at h1
   simpa using h1
  ·exact xT h.2 (fun k=>by have:=hk (k+1);simp only [se] at this;rw [this];congr 1;omega) j (by omega) hj
theorem NZ {i:Nat}{oi:Oper}(hi:ops[i]? = some oi)(h:KA L i oi ops 0 ops.toList am=true):Region.free .any ops listed i=true:=by
 have hm:=ya ham
 have key:∀(l:List Oper) (j:Nat) (as:List Nat),KA L i oi ops j l as=true→as=l.map (fun o=>lO o.after.toList)→∀k o,l[k]? = some o→(j+k=i∨L.testBit (j+k)=true∨(lO o.after.toList).testBit i=true∨oi.apart ops o=true):=by
  intro l
  induction l with
  | nil=>intro j as h he k o ho;simp at ho
  | cons x l ih =>
   intro j as h he k o ho
   cases as with
   | nil=>cases h
   | cons a as =>
    simp only [List.map_cons,List.cons.injEq] at he
    simp only [KA,Bool.and_eq_true,Bool.or_eq_true] at h
    cases k with
    | zero =>
     simp at ho;subst ho
     rw [←he.1]
     rcases h.1 with ((h1 | h1) | h1) | h1
     ·exact .inl (Nat.eq_of_beq_eq_true h1)
     ·exact .inr (.inl h1)
     ·exact .inr (.inr (.inl h1))
     ·exact .inr (.inr (.inr h1))
    | succ k =>
     have:=ih (j+1) as h.2 he.2 k o (by simpa using ho)
     rw [show j+(k+1)=j+1+k by omega];exact this
 simp only [Region.free,hi,List.all_eq_true,List.mem_range,Bool.or_eq_true,beq_iff_eq]
 intro j hj
 have ho:ops[j]? = some ops[j]:=Array.getElem?_eq_getElem hj
 have:=key ops.toList 0 am h hm j ops[j] (by simp)
 rw [Nat.zero_add] at this
 rcases this with h1 | h1 | h1 | h1
 ·exact .inl (.inl h1)
 ·refine .inl (.inr ?_)
  have h2:=(hb.2.1 j).2 ⟨hj,h1⟩
  have hsz:=hb.1
  simp only [Array.getD_eq_getD_getElem?] at h2 ⊢
  rw [Array.getElem?_eq_getElem (by omega)] at h2 ⊢
  simpa using h2
 ·refine .inr ?_
  simp only [ho,Bool.or_eq_true,Array.any_eq_true',Bool.and_eq_true,beq_iff_eq]
  obtain⟨e,he,hbd,hon⟩:=(pR _ _).1 h1
  exact .inl ⟨e,by simpa using he,hbd,hon⟩
 ·refine .inr ?_
  simp only [ho,Bool.or_eq_true]
  exact .inr h1
end
theorem tv:∀p:zf,Cy p=yZ p.plan
 | .done=>rfl
 | .take _ _ _=>rfl
 | .run _ _ _ _=>rfl
 | .both p q=>by simp only [Cy,yZ,tv p,tv q]
theorem Tx {ops:Array Oper}{am ms:List Nat}(ham:NE ops.toList am=true):∀(p:zf)(top:Bool)(listed:Array Bool)(L:Nat)(tk:List Nat),B4 ops.size listed L→QT ops ops.toList am ms p top L tk=true →
  km ops ms p.plan top listed tk=true:=by
 intro p
 induction p with
 | done =>
  intro top listed L tk hb h
  simp only [QT] at h
  have:Region.ready .any ops listed=[]:=by
   rw [List.eq_nil_iff_forall_not_mem]
   intro j hj
   have:=xT ham hb h (fun k=>by rw [Nat.zero_add]) j (Nat.zero_le _) hj
   simp at this
  simp [km,this]
 | take i L' r ih =>
  intro top listed L tk hb h
  simp only [QT] at h
  split at h
  ·rename_i o a ho ha
   simp only [Bool.and_eq_true] at h
   obtain⟨⟨⟨⟨hq,hr⟩,hf⟩,hL⟩,h⟩:=h
   have ho':ops[i]? = some o:=by rw [qq] at ho;simpa using ho
   have hi:i<ops.size:=(Array.getElem?_eq_some_iff.1 ho').1
   have hr':=(DW ham hb ha).1 (by simp only [Iw,Bool.and_eq_true];exact hr)
   have hL':=Nat.eq_of_beq_eq_true hL
   subst hL'
   have:=ih true _ _ _ (hb.set hi) h
   simp only [km,ho',Bool.and_eq_true]
   refine⟨⟨⟨hq,by simpa using hr'⟩,NZ ham hb ho' hf⟩,?_⟩
   cases hl:md o.op with
   | true=>rw [hl] at this;simpa using this
   | false=>rw [hl] at this;simpa using this
  ·cases h
 | run j hs L' r ih =>
  intro top listed L tk hb h
  simp only [QT] at h
  split at h
  ·rename_i a ha
   simp only [Bool.and_eq_true,Bool.or_eq_true,Bool.not_eq_true'] at h
   obtain⟨⟨⟨⟨htop,hr⟩,hall⟩,hL⟩,h⟩:=h
   have hr':=(DW ham hb ha).1 (by simp only [Iw,Bool.and_eq_true,Bool.not_eq_true'];exact hr)
   obtain⟨_,o,ho,_⟩:=mem_ready.1 hr'
   have hi:j<ops.size:=(Array.getElem?_eq_some_iff.1 ho).1
   have hL':=Nat.eq_of_beq_eq_true hL
   subst hL'
   have:=ih true _ _ _ (hb.set hi) h
   simp only [km,Bool.and_eq_true,Bool.or_eq_true,Bool.not_eq_true']
   refine⟨⟨⟨?_,by simpa using hr'⟩,hall⟩,this⟩
   refine htop.imp id fun ht=>?_
   simp only [List.all_eq_true,beq_iff_eq]
   intro x hx
   have:=xT ham hb ht (fun k=>by rw [Nat.zero_add]) x (Nat.zero_le _) hx
   simpa using this
  ·cases h
 | both p q ihp ihq =>
  intro top listed L tk hb h
  simp only [QT,Bool.and_eq_true,Bool.or_eq_true,Bool.not_eq_true'] at h
  obtain⟨⟨⟨hne,htop⟩,hp⟩,hq⟩:=h
  simp only [km,Bool.and_eq_true,Bool.or_eq_true,Bool.not_eq_true']
  refine⟨⟨⟨?_,?_⟩,ihp _ _ _ _ hb hp⟩,ihq _ _ _ _ hb hq⟩
  ·cases he:Region.ready .any ops listed with
   | cons x l=>rfl
   | nil =>
    exfalso
    have hbad:∀(i:Nat) (as:List Nat),(∀k,se as k=se am (i+k))→A2 L [] i as=true:=by
     intro i as
     induction as generalizing i with
     | nil=>intro _;rfl
     | cons a as iha =>
      intro hk
      simp only [A2,Bool.and_eq_true]
      refine⟨?_,iha (i+1) fun k=>by have:=hk (k+1);simp only [se] at this;rw [this];congr 1;omega⟩
      have h0:=hk 0
      simp only [se,Nat.add_zero] at h0
      cases hr:Iw a L i with
      | false=>(simp [Iw] at hr ⊢) <;> exact hr
      | true =>
       have:=(DW ham hb h0.symm).1 hr
       rw [he] at this;cases this
    rw [hbad 0 am fun k=>by rw [Nat.zero_add]] at hne
    cases hne
  ·refine htop.imp id fun ht=>?_
   simp only [List.all_eq_true]
   intro x hx
   have:=xT ham hb ht (fun k=>by rw [Nat.zero_add]) x (Nat.zero_le _) hx
   rw [tv,tv] at this
   exact this
theorem K2 (n:Nat):B4 n (Array.replicate n false) 0:=by
 refine⟨by simp,fun k=>?_,fun k hk=>by simp at hk⟩
 have h:(Array.replicate n false).getD k false=false:=by
  simp only [Array.getD_eq_getD_getElem?,Array.getElem?_replicate]
  split <;> rfl
 simp [h]
theorem C0 {ops:Array Oper}{d:LC}(h:L1 ops d=true):Region.noSelect ops=true∧L3 ops d.ms=true∧km ops d.ms d.plan.plan true (Array.replicate ops.size false) []=true∧depth d.plan.plan≤ops.size:=by
 simp only [L1,Bool.and_eq_true] at h
 obtain⟨⟨⟨⟨h1,h2⟩,h3⟩,h4⟩,h5⟩:=h
 exact⟨h1,Oy h3,Tx h2 _ _ _ _ _ (K2 _) h4,Nat.le_of_ble_eq_true h5⟩
end Go.Proofs.YtoealglbimbbmaaGreatDoor.S
