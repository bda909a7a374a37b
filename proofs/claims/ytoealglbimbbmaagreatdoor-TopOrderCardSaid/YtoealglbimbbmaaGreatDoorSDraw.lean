import Derived.Test.YtoealglbimbbmaaGreatDoorSEval
import Derived.OrdersHeld
namespace Go.Proofs.YtoealglbimbbmaaGreatDoor.S
open Go
abbrev Fr:=List (Nat×Option Value)
abbrev KF:=Fr→World→Prop
noncomputable abbrev kC (fr:Fr) (t:Nat):Option Value:=List.rec (motive:=fun _=>Option Value) none (fun p _ ih=>cond (Nat.beq p.1 t) p.2 ih) fr
theorem qc (p:Nat×Option Value)(fr:Fr)(t:Nat):kC (p::fr) t=if p.1=t then p.2 else kC fr t:=by
 show cond (Nat.beq p.1 t) p.2 (kC fr t)=_
 by_cases h:p.1=t
 ·subst h;simp
 ·rw [if_neg h]
  have:Nat.beq p.1 t=false:=by
   rw [Bool.eq_false_iff];intro hb;exact h (Nat.eq_of_beq_eq_true hb)
  rw [this];rfl
noncomputable abbrev rd (fr:Fr):Operand→Option Value
 | .tmp t=>kC fr t
 | .const v=>some v
 | .global g=>some (.pointer (some ⟨g,0,none⟩))
 | .func f=>some (.func (.func f) #[] #[])
abbrev PY (fr:Fr)(dst:Option Tmp)(v:Value):Fr:=match dst with | some d=>(d,some v)::fr | none=>fr
def gL (n:Nat)(fr:Fr)(a:Act):Prop:=a.tmps.size=n∧∀t v,kC fr t=some v→a.tmps[t]? = some v
theorem gL.rd {n:Nat}{fr:Fr}{a:Act}(h:gL n fr a):∀x v,rd fr x=some v→a.eval x=v:=by
 intro x v hx
 cases x with
 | tmp t=>simp only [S.rd] at hx;simp [Act.eval,Array.getD_eq_getD_getElem?,h.2 t v hx]
 | const u=>simp [S.rd] at hx;exact hx
 | global g=>simp [S.rd] at hx;exact hx
 | func f=>simp [S.rd] at hx;exact hx
theorem gL.put {n:Nat}{fr:Fr}{a:Act}(h:gL n fr a)(dst:Option Tmp)(v:Value)(hd:∀d,dst=some d→d<n):gL n (PY fr dst v) (a.put dst v):=by
 cases dst with
 | none=>exact h
 | some d =>
  have hlt:=hd d rfl
  refine⟨by simp [Act.put,h.1],fun t u hu=>?_⟩
  simp only [PY] at hu
  rw [qc] at hu
  simp only at hu
  simp only [Act.put]
  by_cases ht:d=t
  ·subst ht
   rw [if_pos rfl] at hu
   cases hu
   simp [h.1,hlt]
  ·rw [if_neg ht] at hu
   simp [ht,h.2 t u hu]
def OG (v:Value)(want:Bool):Bool:=match v with | .bool b=>b == want | _=>false
noncomputable abbrev TJ (all:List Oper) (fr:Fr) (j:Nat):Option Value:=match r9 all j with | some o=>(match o.dst with | some t=>kC fr t | none=>none) | none=>none
theorem wm {n:Nat}{ops:Array Oper}{fr:Fr}{a:Act}{o:Oper}{j:Nat}{want:Bool}{v:Value}(h:gL n fr a)(hg:o.guard=some (j,want))(hv:TJ ops.toList fr j=some v) :
  Region.wanted o (yielded ops a.tmps)=OG v want:=by
 unfold TJ at hv
 split at hv
 ·rename_i oj hj
  split at hv
  ·rename_i t ht
   have:=h.2 t v hv
   rw [qN] at hj
   have hj':ops[j]? = some oj:=by simpa using hj
   simp only [Region.wanted,hg,yielded,hj',Option.bind_some,ht,this]
   cases v <;> simp [OG]
  ·cases hv
 ·cases hv
def gW (v:Value)(want:Bool)(A:KV→World→Prop)(K:KV)(w:World):Prop:=(OG v want=true→A K w)∧(OG v want=false→K undef w)
noncomputable abbrev j0 (E:An) (all:List Oper) (fr:Fr) (o:Oper) (K:KV) (w:World):Prop :=
 match o.guard with
 | none=>dq E (rd fr) o.op K w
 | some (j,want)=>match TJ all fr j with
  | some v=>gW v want (fun K w=>dq E (rd fr) o.op K w) K w
  | none=>False
noncomputable abbrev D1 (E:An) (all:List Oper):List Oper→Fr→KF→World→Prop
 | [],fr,k,w=>k fr w
 | o::l,fr,k,w=>j0 E all fr o (fun v w=>D1 E all l (PY fr o.dst v) k w) w
section
variable {E:An}(hE:E.OK){ops:Array Oper}
include hE
theorem EU {n:Nat}{o:Oper}{fr:Fr}{a:Act}{K:KV}{w:World}{next:Act→World→Prop}{Q:Exit→Act→World→Prop}(hfr:gL n fr a)(h:j0 E ops.toList fr o K w)
  (hK:∀v w',K v w'→next (a.put o.dst v) w'):if Region.wanted o (yielded ops a.tmps)=true then o.wp E.P a w next Q else next (a.put o.dst undef) w:=by
 unfold j0 at h
 split at h
 ·rename_i hg
  rw [if_pos (by simp [Region.wanted,hg])]
  exact Kl hE hfr.rd h hK
 ·rename_i j want hg
  split at h <;> try exact h.elim
  rename_i v hv
  rw [wm hfr hg hv]
  split
  ·rename_i hb;exact Kl hE hfr.rd (h.1 hb) hK
  ·rename_i hb;exact hK _ _ (h.2 (by simpa using hb))
theorem sf {n:Nat}{Q:Exit→Act→World→Prop}{R:Act→Act→Prop}(hRr:∀a,R a a)(hRt:∀a b c,R a b→R b c→R a c) :
  ∀(l:List Oper) (_:∀o∈l,∀a v,R a (a.put o.dst v)) (_:∀o∈l,∀d,o.dst=some d→d<n) (fr:Fr) (a:Act) (w:World) (k:KF),gL n fr a→D1 E ops.toList l fr k w →
  (∀fr' a' w',gL n fr' a'→R a a'→k fr' w'→Q .normal a' w')→wpList E.P ops Q l a w
 | [],_,_,fr,a,w,k,hfr,h,hk=>hk fr a w hfr (hRr a) h
 | o::l,hRp,hlt,fr,a,w,k,hfr,h,hk=>by
  refine wpList_step fun K' hK'=>?_
  have:=EU hE (next:=K') (Q:=Q) hfr h (fun v w' hv=>hK' _ _ (sf hRr hRt l (fun o ho=>hRp o (List.mem_cons_of_mem _ ho)) (fun o ho=>hlt o (List.mem_cons_of_mem _ ho)) _ _ w' k (hfr.put o.dst v (hlt o (by simp))) hv
   (fun fr' a' w'' h1 h2 h3=>hk fr' a' w'' h1 (hRt _ _ _ (hRp o (by simp) a v) h2) h3)))
  exact this
end
inductive Jb where
 | done
 | take (i:Nat) (rest:Jb)
 | run (j:Nat) (hs:List Nat) (rest:Jb)
 | both (p q:Jb)
abbrev mf:Op→Bool
 | .load ..=>true
 | _=>false
abbrev ww:Op→Bool
 | .move _ | .assign _ | .pick .. | .binOp .. | .unOp .. | .convert .. | .extract .. | .nilCheck _ | .fieldAddr .. | .field .. | .indexAddr .. | .makeFunc .. | .build .. | .slice ..=>true
 | .call { callee:=.builtin .len,.. } | .call { callee:=.builtin .max,.. } | .call { callee:=.builtin .min,.. }=>true
 | _=>false
abbrev HZ (hs:List Nat):List (Nat×(World→Prop))→World→Prop
 | [],_=>True
 | (i,S)::l,w=>(match hs.contains i with | true=>S w | false=>True)∧HZ hs l w
noncomputable abbrev pb (E:An) (all:List Oper):Jb→Fr→List (Nat×(World→Prop))→KF→World→Prop
 | .done,fr,_,k,w=>k fr w
 | .take i r,fr,tk,k,w=>match r9 all i with
  | some o=>j0 E all fr o (fun v w=>pb E all r (PY fr o.dst v) (match mf o.op with | true=>(i,fun w'=>j0 E all fr o (fun v' _=>v'=v) w')::tk | false=>tk) k w) w
  | none=>False
 | .run j hs r,fr,tk,k,w=>match r9 all j with
  | some o=>j0 E all fr o (fun v w=>HZ hs tk w∧pb E all r (PY fr o.dst v) (tk.filter fun p=>hs.contains p.1) k w) w
  | none=>False
 | .both p q,fr,tk,k,w=>pb E all p fr tk k w∧pb E all q fr tk k w
def zd:Jb→List Nat
 | .run j _ _=>[j]
 | .both p q=>zd p++zd q
 | _=>[]
def depth:Jb→Nat
 | .done=>0
 | .take _ r=>depth r+1
 | .run _ _ r=>depth r+1
 | .both p q=>max (max (depth p) (depth q)) 1
def ke (ops:Array Oper)(ms:List Nat):Jb→Bool→Array Bool→List Nat→Bool
 | .done,_,listed,_=>(Region.ready .any ops listed).isEmpty
 | .take i r,_,listed,tk=>match ops[i]? with
  | some o=>(ww o.op || mf o.op) && (Region.ready .any ops listed).contains i && Region.free .any ops listed i && ke ops ms r true (listed.setIfInBounds i true) (if mf o.op=true then i::tk else tk)
  | none=>false
 | .run j hs r,top,listed,tk=>(!top || (Region.ready .any ops listed).all (· == j)) && (Region.ready .any ops listed).contains j && (tk.all fun i=>hs.contains i || ((r9 ms j).getD 0).testBit i) && ke ops ms r true (listed.setIfInBounds j true) (tk.filter fun i=>hs.contains i)
 | .both p q,top,listed,tk=>!(Region.ready .any ops listed).isEmpty && (!top || (Region.ready .any ops listed).all (fun j=>(zd p++zd q).contains j)) && ke ops ms p false listed tk && ke ops ms q false listed tk
def LV (ops:Array Oper)(ms:List Nat):Bool :=
 (List.range ops.size).all fun j=>(List.range ops.size).all fun i=>!((r9 ms j).getD 0).testBit i ||
  (match ops[j]? with | some o=>o.after.any fun e=>Region.binds .any e && decide (e.on<j) && (e.on == i || ((r9 ms e.on).getD 0).testBit i) | none=>false)
inductive sn where
 | done
 | take (i L:Nat) (rest:sn)
 | run (j:Nat) (hs:List Nat) (L:Nat) (rest:sn)
 | both (p q:sn)
abbrev sn.plan:sn→Jb
 | .done=>.done
 | .take i _ r=>.take i r.plan
 | .run j hs _ r=>.run j hs r.plan
 | .both p q=>.both p.plan q.plan
structure Sd where
 am:List Nat
 ms:List Nat
 plan:sn
abbrev kE:List Edge→Nat
 | []=>0
 | e::l=>match Region.binds .any e with | true=>(2 ^ e.on) ||| kE l | false=>kE l
abbrev O7:List Oper→List Nat→Bool
 | [],[]=>true
 | o::l,a::as=>Nat.beq (kE o.after.toList) a && O7 l as
 | _,_=>false
abbrev vQ (ms:List Nat)(j:Nat):List Edge→Option Nat
 | []=>some 0
 | e::l=>match Region.binds .any e,vQ ms j l with
  | true,some m=>match Nat.blt e.on j with | true=>some (((2 ^ e.on) ||| (r9 ms e.on).getD 0) ||| m) | false=>none
  | false,some m=>some m
  | _,none=>none
abbrev J3 (ms:List Nat):Nat→List Oper→List Nat→Bool
 | _,[],[]=>true
 | j,o::l,m::r=>(match vQ ms j o.after.toList with | some c=>Nat.beq c m | none=>false) && J3 ms (j+1) l r
 | _,_,_=>false
abbrev Qq:Nat→Nat→List Nat
 | 0,_=>[]
 | n+1,m=>match m.testBit n with | true=>n::Qq n m | false=>Qq n m
abbrev P6:Nat→Nat→Nat→List Nat
 | 0,_,_=>[]
 | n+1,i,m=>match m.testBit i with | true=>i::P6 n (i+1) m | false=>P6 n (i+1) m
abbrev TA:Nat→List Nat→sn
 | _,[]=>.done
 | L,c::r=>match Nat.blt c 64 with
  | true=>.take c (L ||| 2 ^ c) (TA (L ||| 2 ^ c) r)
  | false=>.run (c % 64) (Qq 64 (c / 64-1)) (L ||| 2 ^ (c % 64)) (TA (L ||| 2 ^ (c % 64)) r)
inductive Ee where
 | c (l:List Nat)
 | p (l:sn)
abbrev Ee.dec:Ee→sn
 | .c l=>TA 0 l
 | .p l=>l
abbrev Qp (ms:List Nat):List Edge→Nat
 | []=>0
 | e::l=>match Region.binds .any e with | true=>((2 ^ e.on) ||| (r9 ms e.on).getD 0) ||| Qp ms l | false=>Qp ms l
abbrev Si:List Oper→List Nat→List Nat
 | [],ms=>ms
 | o::l,ms=>Si l (ms++[Qp ms o.after.toList])
abbrev TR (ops:Array Oper)(p:Ee):Sd:=⟨ops.toList.map fun o=>kE o.after.toList,Si ops.toList [],p.dec⟩
abbrev IU (a L i:Nat):Bool:=!(L.testBit i) && Nat.beq (a &&& L) a
abbrev Bj (L:Nat)(hs:List Nat):Nat→List Nat→Bool
 | _,[]=>true
 | i,a::as=>(!(IU a L i) || hs.contains i) && Bj L hs (i+1) as
abbrev JA (L i:Nat)(oi:Oper)(ops:Array Oper):Nat→List Oper→List Nat→Bool
 | _,[],[]=>true
 | j,o::l,a::as=>(Nat.beq j i || L.testBit j || a.testBit i || oi.apart ops o) && JA L i oi ops (j+1) l as
 | _,_,_=>false
abbrev Cu:sn→List Nat
 | .run j _ _ _=>[j]
 | .both p q=>Cu p++Cu q
 | _=>[]
abbrev QZ (ops:Array Oper)(all:List Oper)(am ms:List Nat):sn→Bool→Nat→List Nat→Bool
 | .done,_,L,_=>Bj L [] 0 am
 | .take i L' r,_,L,tk=>match r9 all i,r9 am i with
  | some o,some a=>(ww o.op || mf o.op) && IU a L i && JA L i o ops 0 all am && Nat.beq L' (L ||| 2 ^ i) && QZ ops all am ms r true L' (match mf o.op with | true=>i::tk | false=>tk)
  | _,_=>false
 | .run j hs L' r,top,L,tk=>match r9 am j with
  | some a=>(!top || Bj L [j] 0 am) && IU a L j && (tk.all fun i=>hs.contains i || ((r9 ms j).getD 0).testBit i) && Nat.beq L' (L ||| 2 ^ j) && QZ ops all am ms r true L' (tk.filter fun i=>hs.contains i)
  | none=>false
 | .both p q,top,L,tk=>!(Bj L [] 0 am) && (!top || Bj L (Cu p++Cu q) 0 am) && QZ ops all am ms p false L tk && QZ ops all am ms q false L tk
abbrev Lw (ops:Array Oper)(d:Sd):Bool :=
 Region.noSelect ops && O7 ops.toList d.am && J3 d.ms 0 ops.toList d.ms && QZ ops ops.toList d.am d.ms d.plan true 0 [] && Nat.ble (depth d.plan.plan) ops.size
noncomputable abbrev E0 (E:An) (ops:Array Oper) (d:Sd) (fr:Fr) (k:KF) (w:World):Prop :=
 match Lw ops d with | true=>pb E ops.toList d.plan.plan fr [] k w.drew | false=>False
end Go.Proofs.YtoealglbimbbmaaGreatDoor.S
namespace Go.Proofs.YtoealglbimbbmaaGreatDoor.S
open Go
section
variable {E:An}{ρ:Operand→Option Value}
theorem zL {t:TypeId}{a:Operand}{K:KV}{w:World}(h:dq E ρ (.load t a) K w):∃v,K v w∧∀K':KV,K' v w→dq E ρ (.load t a) K' w:=by
 simp only [dq] at h
 split at h <;> try exact h.elim
 rename_i d i hd hi
 obtain⟨x,hx,h⟩:=al h
 split at h
 ·rename_i hg
  unfold aj at h
  split at h <;> try exact h.elim
  split at h <;> try exact h.elim
  rename_i cs hm
  refine⟨_,h.2,fun K' hk=>?_⟩
  simp only [dq,hd,hi,hx,bz,hg,aj,hm]
  exact⟨h.1,hk⟩
 ·rename_i hg
  unfold ab at h
  split at h <;> try exact h.elim
  split at h <;> try exact h.elim
  rename_i cs hm
  unfold dn at h
  split at h <;> try exact h.elim
  rename_i v hv
  refine⟨_,h,fun K' hk=>?_⟩
  simp only [dq,hd,hi,hx,bz,hg,ab,hm,hv,dn]
  exact hk
theorem oO {o:Option Value}{K:KV}{w:World}(h:dn o K w):∃v,o=some v∧K v w:=by
 unfold dn at h
 split at h
 ·exact⟨_,rfl,h⟩
 ·exact h.elim
theorem AA {op:BinOp}{t:Bool}{K:KV}{w:World}(h:F8 op t K w):∃v,K v w∧∀(K':KV) w',K' v w'→F8 op t K' w':=by
 unfold F8 at h
 split at h <;> first | exact⟨_,h,fun K' w' hk=>hk⟩ | exact h.elim
theorem KX {op:BinOp}{x y:Value}{K:KV}{w:World}(h:aa op x y K w):∃v,K v w∧∀(K':KV) w',K' v w'→aa op x y K' w':=by
 unfold aa at h
 split at h <;> try exact h.elim
 split at h
 ·exact⟨_,h.2,fun K' w' hk=>⟨h.1,hk⟩⟩
 ·exact⟨_,h.2,fun K' w' hk=>⟨h.1,hk⟩⟩
 ·rename_i h1 h2
  obtain⟨hk,h⟩:=h
  obtain⟨v,hv,h⟩:=oO h
  refine⟨v,h,fun K' w' hk'=>?_⟩
  unfold aa
  cases op <;> simp_all [dn]
theorem P8 {o:Op}(hp:ww o=true){K:KV}{w:World}(h:dq E ρ o K w):∃v,K v w∧∀(K':KV) w',K' v w'→dq E ρ o K' w':=by
 unfold dq at h
 split at h <;> try (simp [ww] at hp;done)
 case h_1 x=>obtain⟨v,hv,h⟩:=al h;exact⟨v,h,fun K' w' hk=>by simp only [dq,hv,bz];exact hk⟩
 case h_2 x=>obtain⟨v,hv,h⟩:=al h;exact⟨v,h,fun K' w' hk=>by simp only [dq,hv,bz];exact hk⟩
 case h_3 c x y =>
  obtain⟨c',hc,h⟩:=al h;obtain⟨x',hx,h⟩:=al h;obtain⟨y',hy,h⟩:=al h
  obtain⟨t,rfl⟩:∃t,c'=.bool t:=by cases c' <;> first | exact⟨_,rfl⟩ | exact h.elim
  exact⟨_,h,fun K' w' hk=>by simp only [dq,hc,hx,hy,bz,bd];exact hk⟩
 case h_6 t parts =>
  split at h <;> try exact h.elim
  rename_i fs i vs ht hi hvs
  split at h <;> try exact h.elim
  rename_i pl hpl
  split at h <;> try exact h.elim
  rename_i ps hps
  obtain⟨z,hz,h⟩:=al h
  unfold ap at h
  split at h <;> try exact h.elim
  rename_i cs hcs
  exact⟨_,h,fun K' w' hk=>by simp only [dq,ht,hi,hvs,hpl,hps,hz,bz,ap,hcs];exact hk⟩
 case h_10 x =>
  obtain⟨v,hv,h⟩:=al h
  unfold ai at h
  split at h <;> try exact h.elim
  ·exact⟨_,h,fun K' w' hk=>by simp only [dq,hv,bz,ai];exact hk⟩
  ·exact⟨_,h,fun K' w' hk=>by simp only [dq,hv,bz,ai];exact hk⟩
 case h_11 op t x y yt =>
  obtain⟨x',hx,h⟩:=al h;obtain⟨y',hy,h⟩:=al h
  split at h
  ·rename_i ht
   obtain⟨v,hk,hany⟩:=KX h
   exact⟨v,hk,fun K' w' hk'=>by simp only [dq,hx,hy,bz,ht];exact hany K' w' hk'⟩
  ·rename_i ht
   unfold fI at h
   split at h <;> try exact h.elim
   obtain⟨v,hk,hany⟩:=AA h
   exact⟨v,hk,fun K' w' hk'=>by simp only [dq,hx,hy,bz,ht,fI];exact hany K' w' hk'⟩
  ·rename_i ht
   unfold eW at h
   split at h <;> try exact h.elim
   all_goals
    obtain⟨v,hk,hany⟩:=AA h
    exact⟨v,hk,fun K' w' hk'=>by simp only [dq,hx,hy,bz,ht,eW];exact hany K' w' hk'⟩
  ·rename_i ht
   unfold eM at h
   split at h <;> try exact h.elim
   all_goals
    obtain⟨v,hk,hany⟩:=AA h
    exact⟨v,hk,fun K' w' hk'=>by simp only [dq,hx,hy,bz,ht,eM];exact hany K' w' hk'⟩
  ·rename_i ht
   unfold qw at h
   split at h <;> try exact h.elim
   obtain⟨v,hk,hany⟩:=AA h
   exact⟨v,hk,fun K' w' hk'=>by simp only [dq,hx,hy,bz,ht,qw];exact hany K' w' hk'⟩
  ·rename_i ht
   split at h <;> try exact h.elim
   rename_i ks hks
   unfold jf at h
   split at h <;> try exact h.elim
   obtain⟨h1,h2,h3⟩:=h
   obtain⟨v,hk,hany⟩:=AA h3
   exact⟨v,hk,fun K' w' hk'=>by simp only [dq,hx,hy,bz,ht,hks,jf];exact⟨h1,h2,hany K' w' hk'⟩⟩
  ·exact h.elim
 case h_12 t x =>
  obtain⟨v,hv,h⟩:=al h
  obtain⟨t,rfl⟩:∃t,v=.bool t:=by cases v <;> first | exact⟨_,rfl⟩ | exact h.elim
  exact⟨_,h,fun K' w' hk=>by simp only [dq,hv,bz,ga];exact hk⟩
 case h_13 src dst' x =>
  split at h <;> try exact h.elim
  rename_i k1 k2 h1 h2
  obtain⟨v,hv,h⟩:=al h
  obtain⟨kk,n,rfl⟩:∃kk n,v=.int kk n:=by cases v <;> first | exact⟨_,_,rfl⟩ | exact h.elim
  exact⟨_,h,fun K' w' hk=>by simp only [dq,h1,h2,hv,bz,ii];exact hk⟩
 case h_14 fn first cap =>
  split at h <;> try exact h.elim
  rename_i vs us h1 h2
  exact⟨_,h,fun K' w' hk=>by simp only [dq,h1,h2];exact hk⟩
 case h_16 t x lo hi =>
  split at h <;> try exact h.elim
  ·rename_i i lo' hi' hi0 h1 h2
   obtain⟨v,hv,h⟩:=al h
   unfold fL at h
   split at h <;> try exact h.elim
   split at h <;> try exact h.elim
   rename_i hb1 hb2
   obtain⟨h3,h4,h5,h⟩:=h
   exact⟨_,h,fun K' w' hk=>by simp only [dq,hi0,h1,h2,hv,bz,fL,hb1,hb2];exact⟨h3,h4,h5,hk⟩⟩
  ·rename_i lo' hi' h0 h1 h2
   split at h <;> try exact h.elim
   rename_i ht
   obtain⟨v,hv,h⟩:=al h
   unfold tA at h
   split at h <;> try exact h.elim
   obtain⟨h3,h4,h5,h⟩:=h
   exact⟨_,h,fun K' w' hk=>by simp only [dq,h0,h1,h2,ht,hv,bz,tA];exact⟨h3,h4,h5,hk⟩⟩
 case h_17 s x f =>
  split at h <;> try exact h.elim
  rename_i fs hs
  split at h <;> try exact h.elim
  rename_i fd hf
  split at h <;> try exact h.elim
  rename_i i hi
  split at h <;> try exact h.elim
  rename_i h0
  obtain⟨v,hv,h⟩:=al h
  unfold ad at h
  split at h <;> try exact h.elim
  exact⟨_,h,fun K' w' hk=>by simp only [dq,hs,hf,hi,h0,hv,bz,ad];exact hk⟩
 case h_18 s x f =>
  split at h <;> try exact h.elim
  rename_i fs hs
  split at h <;> try exact h.elim
  rename_i fd hf
  split at h <;> try exact h.elim
  rename_i i d hi hd
  obtain⟨v,hv,h⟩:=al h
  unfold oC at h
  split at h <;> try exact h.elim
  split at h
  ·rename_i hg
   exact⟨_,h,fun K' w' hk=>by simp only [dq,hs,hf,hi,hd,hv,bz,oC,hg,if_true];exact hk⟩
  ·rename_i hg
   obtain⟨u,hu,h⟩:=oO h
   exact⟨_,h,fun K' w' hk=>by simp only [dq,hs,hf,hi,hd,hv,bz,oC,if_neg hg,hu,dn];exact hk⟩
 case h_19 t x ix =>
  split at h <;> try exact h.elim
  ·rename_i e ht
   split at h <;> try exact h.elim
   rename_i i hi
   obtain⟨v,hv,h⟩:=al h;obtain⟨u,hu,h⟩:=al h
   unfold bt at h
   split at h <;> try exact h.elim
   obtain⟨h1,h2,h⟩:=h
   exact⟨_,h,fun K' w' hk=>by simp only [dq,ht,hi,hv,hu,bz,bt];exact⟨h1,h2,hk⟩⟩
  ·rename_i n e ht
   split at h <;> try exact h.elim
   rename_i i hi
   obtain⟨v,hv,h⟩:=al h;obtain⟨u,hu,h⟩:=al h
   unfold nP at h
   split at h <;> try exact h.elim
   obtain⟨h1,h2,h⟩:=h
   exact⟨_,h,fun K' w' hk=>by simp only [dq,ht,hi,hv,hu,bz,nP];exact⟨h1,h2,hk⟩⟩
 case h_20 t i =>
  obtain⟨v,hv,h⟩:=al h
  unfold ao at h
  split at h <;> try exact h.elim
  obtain⟨u,hu,h⟩:=oO h
  exact⟨_,h,fun K' w' hk=>by simp only [dq,hv,bz,ao,hu,dn];exact hk⟩
 case h_21 args ts =>
  split at h <;> try exact h.elim
  rename_i x t hx ht
  split at h <;> try exact h.elim
  rename_i e hu
  obtain⟨v,hv,h⟩:=al h
  unfold bp at h
  split at h <;> try exact h.elim
  exact⟨_,h,fun K' w' hk=>by simp only [dq,hx,ht,hu,hv,bz,bp];exact hk⟩
 case h_22 args ts =>
  split at h <;> try exact h.elim
  rename_i x l hx
  obtain⟨u,hu,h⟩:=oO h
  exact⟨_,h,fun K' w' hk=>by simp only [dq,hx,lR,hu,dn];exact hk⟩
 case h_23 args ts =>
  split at h <;> try exact h.elim
  rename_i x l hx
  obtain⟨u,hu,h⟩:=oO h
  exact⟨_,h,fun K' w' hk=>by simp only [dq,hx,iO,hu,dn];exact hk⟩
 all_goals exact h.elim
end
section
variable {P:Program}{ops:Array Oper}{Q:Exit→Act→World→Prop}
def mB (ms:List Nat)(j:Nat)(tk:List (Nat×(World→Prop))):List (Nat×(World→Prop)):=tk.filter fun p=>!((r9 ms j).getD 0).testBit p.1
def qO (P:Program)(ops:Array Oper)(Q:Exit→Act→World→Prop)(ms:List Nat):List (Nat×(World→Prop))→Nat→Array Bool→Act→World→Prop
 | _,0,listed,a,w=>Region.ready .any ops listed=[]∧Q .normal a w
 | tk,fuel+1,listed,a,w=>(Region.ready .any ops listed=[]→Q .normal a w) ∧
  ∀i∈Region.ready .any ops listed,wpOp P ops Q i (fun a' w'=>(∀p∈mB ms i tk,p.2 w')∧qO P ops Q ms (mB ms i tk) fuel (listed.setIfInBounds i true) a' w') a w
theorem Ai {ms:List Nat}:∀(fuel:Nat)(tk:List (Nat×(World→Prop)))(listed:Array Bool)(a:Act)(w:World),qO P ops Q ms tk fuel listed a w→wpAny P .any ops Q fuel listed a w
 | 0,_,_,_,_,h=>h
 | fuel+1,_,_,_,_,h=>⟨h.1,fun i hi=>wpOp_mono (fun a' w' h'=>Ai fuel _ _ a' w' h'.2) (h.2 i hi)⟩
theorem tX {ms:List Nat}:∀(fuel:Nat)(tk tk':List (Nat×(World→Prop)))(_:∀p∈tk',p∈tk∨∀w,p.2 w)(listed:Array Bool)(a:Act)(w:World),qO P ops Q ms tk fuel listed a w→qO P ops Q ms tk' fuel listed a w
 | 0,_,_,_,_,_,_,h=>h
 | fuel+1,tk,tk',hs,_,_,_,h=>by
  have hd:∀i,∀p∈mB ms i tk',p∈mB ms i tk∨∀w,p.2 w:=fun i p hp=>by
   simp only [mB,List.mem_filter] at hp ⊢
   exact(hs p hp.1).imp (fun hm=>⟨hm,hp.2⟩) id
  exact⟨h.1,fun i hi=>wpOp_mono (fun a' w' h'=>⟨fun p hp=>(hd i p hp).elim (fun hm=>h'.1 p hm) (fun ht=>ht w'),tX fuel _ _ (hd i) _ a' w' h'.2⟩) (h.2 i hi)⟩
def CC (ops:Array Oper)(listed:Array Bool):Prop:=∀k o,ops[k]? = some o→listed.getD k false=true→∀e∈o.after,Region.binds .any e=true→listed.getD e.on false=true
theorem CC.set {listed:Array Bool}{i:Nat}(h:CC ops listed)(hi:i∈Region.ready .any ops listed):CC ops (listed.setIfInBounds i true):=by
 intro k o hk hl e he hb
 have key:listed.getD e.on false=true→(listed.setIfInBounds i true).getD e.on false=true:=getD_set_true
 by_cases hik:i=k
 ·subst hik
  obtain⟨_,o',ho',hall⟩:=mem_ready.1 hi
  rw [ho'] at hk;cases hk
  exact key (hall e he hb)
 ·rw [getD_set_ne false hik] at hl
  exact key (h k o hk hl e he hb)
theorem N2 {ms:List Nat}(hms:LV ops ms=true){listed:Array Bool}(hc:CC ops listed):∀(j i:Nat),j<ops.size→i<ops.size→((r9 ms j).getD 0).testBit i=true →
  (∀o,ops[j]? = some o→∀e∈o.after,Region.binds .any e=true→listed.getD e.on false=true)→listed.getD i false=true:=by
 intro j
 induction j using Nat.strongRecOn with
 | _ j ih =>
  intro i hj hi hb hall
  simp only [LV,List.all_eq_true,List.mem_range] at hms
  have:=hms j hj i hi
  rw [hb] at this
  simp only [Bool.not_true,Bool.false_or] at this
  split at this
  ·rename_i o ho
   simp only [Array.any_eq_true,Bool.and_eq_true,Bool.or_eq_true,decide_eq_true_eq,beq_iff_eq] at this
   obtain⟨x,hx,⟨hbe,hlt⟩,hor⟩:=this
   have hl:=hall o ho _ (Array.getElem_mem hx) hbe
   rcases hor with heq | htb
   ·rw [heq] at hl;exact hl
   ·have hk:o.after[x].on<ops.size:=by omega
    exact ih _ hlt i hk hi htb (fun o' ho' e he hb=>hc _ o' ho' hl e he hb)
  ·cases this
theorem Hv {ms:List Nat}(hms:LV ops ms=true){i:Nat}{oi:Oper}{v:Value}{S:World→Prop}(hi:ops[i]? = some oi)(hsel:∀(j:Nat)(o:Oper) cs b,ops[j]? = some o→o.op≠.select cs b)
  (hQ:∀c a w,Q (.panic c) (a.put oi.dst v) w→Q (.panic c) a w) :
  ∀(fuel:Nat) (tk:List (Nat×(World→Prop))) (listed:Array Bool) (a:Act) (w:World),
   (∀j oj,ops[j]? = some oj→j≠i→listed.getD j true=false→(∀e∈oj.after,Region.binds .any e=true→e.on≠i)→oi.apart ops oj=true) →
   CC ops listed→i∈Region.ready .any ops listed→YieldsIf P ops S oi v a→S w→(∀p∈tk,p.2 w) →
   qO P ops Q ms ((i,S)::tk) fuel (listed.setIfInBounds i true) (a.put oi.dst v) w→qO P ops Q ms tk (fuel+1) listed a w:=by
 intro fuel
 induction fuel with
 | zero =>
  intro tk listed a w _ _ hr hy hS ht H
  refine⟨fun h=>(by rw [h] at hr;cases hr),fun j hj=>?_⟩
  by_cases hji:j=i
  ·subst hji;exact hy.wpOp hi hS ⟨fun p hp=>ht p (List.mem_filter.1 hp).1,H⟩
  ·have:=ready_mono hj hji
   rw [H.1] at this
   cases this
 | succ fuel ih =>
  intro tk listed a w hfree hcl hr hy hS ht H
  refine⟨fun h=>(by rw [h] at hr;cases hr),fun j hj=>?_⟩
  by_cases hji:j=i
  ·subst hji
   exact hy.wpOp hi hS ⟨fun p hp=>ht p (List.mem_filter.1 hp).1,tX _ _ _ (fun p hp=>.inl (List.mem_cons_of_mem _ (List.mem_filter.1 hp).1)) _ _ _ H⟩
  ·have h1:=H.2 j (ready_mono hj hji)
   obtain⟨hjun,oj,hoj,hall⟩:=mem_ready.1 hj
   have hun:listed.getD i false=false:=by
    have h0:=(mem_ready.1 hr).1
    rcases Nat.lt_or_ge i listed.size with h' | h'
    ·simpa [h'] using h0
    ·simp [Array.getElem?_eq_none h'] at h0
   have hnot:∀e∈oj.after,Region.binds .any e=true→e.on≠i:=fun e he hb heq=>by
    have h1:=hall e he hb
    rw [heq,hun] at h1;cases h1
   have hisz:i<ops.size:=by
    rcases Nat.lt_or_ge i ops.size with h' | h'
    ·exact h'
    ·simp [Array.getElem?_eq_none h'] at hi
   have hjsz:j<ops.size:=by
    rcases Nat.lt_or_ge j ops.size with h' | h'
    ·exact h'
    ·simp [Array.getElem?_eq_none h'] at hoj
   have hbit:((r9 ms j).getD 0).testBit i=false:=by
    cases hb:((r9 ms j).getD 0).testBit i with
    | false=>rfl
    | true =>
     have:=N2 hms hcl j i hjsz hisz hb (fun o ho e he hb=>by rw [hoj] at ho;cases ho;exact hall e he hb)
     rw [hun] at this;cases this
   have h2:=wpOp_putIf hoj (hfree j oj hoj hji hjun hnot) (fun cs b=>hsel i oi cs b hi) (fun cs b=>hsel j oj cs b hoj) hQ hy h1
   have hfree':∀k ok,ops[k]? = some ok→k≠i→(listed.setIfInBounds j true).getD k true=false →
     (∀e∈ok.after,Region.binds .any e=true→e.on≠i)→oi.apart ops ok=true:=fun k ok hk hki hun hno=>by
    refine hfree k ok hk hki ?_ hno
    by_cases hjk:j=k
    ·subst hjk;exact hjun
    ·rw [getD_set_ne true hjk] at hun;exact hun
   have hdr:mB ms j ((i,S)::tk)=(i,S)::mB ms j tk:=by simp [mB,hbit]
   rw [hdr] at h2
   refine wpOp_mono (fun a' w' h3=>⟨fun p hp=>h3.2.1 p (List.mem_cons_of_mem _ hp),?_⟩) h2
   refine ih _ (listed.setIfInBounds j true) a' w' hfree' (hcl.set hj) (ready_mono hr (Ne.symm hji)) h3.1 (h3.2.1 (i,S) (by simp)) (fun p hp=>h3.2.1 p (List.mem_cons_of_mem _ hp)) ?_
   rw [Array.setIfInBounds_comm _ _ hji]
   exact h3.2.2
end
theorem DA {hs:List Nat}:∀{tk:List (Nat×(World→Prop))}{w:World},HZ hs tk w→∀q∈tk,hs.contains q.1=true→q.2 w
 | [],_,_,q,hq,_=>by cases hq
 | (i,S)::l,w,h,q,hq,hc=>by
  rcases List.mem_cons.1 hq with rfl | hq
  ·have hc':hs.contains i=true:=hc
   have:=h.1;rw [hc'] at this;exact this
  ·exact DA h.2 q hq hc
section
variable {E:An}(hE:E.OK){ops:Array Oper}
include hE
theorem CV {o:Oper}{a:Act}{ρ:Operand→Option Value}(hρ:∀x v,ρ x=some v→a.eval x=v){K:KV}{w:World}(hp:ww o.op=true)(h:dq E ρ o.op K w) :
  ∃v,K v w∧∀w',(execOp a.eval o).run E.P w'=.ok (.value v) w':=by
 obtain⟨v,hk,hany⟩:=P8 hp h
 refine⟨v,hk,fun w'=>?_⟩
 have hpl:rj o.op=true:=by
  revert hp;cases o.op <;> simp [ww,rj]
  rename_i c;cases c with | mk cal args ts=>cases cal <;> simp
 obtain⟨v',w'',hr,h1,h2⟩:=Ct hE hρ (K:=fun v' w''=>v'=v∧w''=w') hpl (hany _ w' ⟨rfl,rfl⟩)
 subst h1;subst h2;exact hr
theorem Dn {o:Oper}{a:Act}{ρ:Operand→Option Value}(hρ:∀x v,ρ x=some v→a.eval x=v){v:Value}{w:World}(hp:mf o.op=true)(h:dq E ρ o.op (fun v' _=>v'=v) w) :
  (execOp a.eval o).run E.P w=.ok (.value v) w:=by
 obtain⟨dst,op,type,pos,after,guard⟩:=o
 cases op <;> simp [mf] at hp
 obtain⟨v',rfl,hall⟩:=zL h
 obtain⟨u,w'',hr,h1,h2⟩:=Ct hE (o:=⟨dst,_,type,pos,after,guard⟩) hρ (K:=fun u w''=>u=v'∧w''=w) rfl (hall _ ⟨rfl,rfl⟩)
 subst h1;subst h2;exact hr
theorem LK {n:Nat}{o:Oper}{fr:Fr}{a:Act}{K:KV}{w:World}(hfr:gL n fr a)(hq:(ww o.op || mf o.op)=true)(h:j0 E ops.toList fr o K w) :
  ∃v,K v w∧if mf o.op=true then YieldsIf E.P ops (fun w'=>j0 E ops.toList fr o (fun v' _=>v'=v) w') o v a∧j0 E ops.toList fr o (fun v' _=>v'=v) w else YieldsIf E.P ops (fun _=>True) o v a:=by
 cases hl:mf o.op with
 | true =>
  simp only [if_true]
  unfold j0 at h
  cases hg:o.guard with
  | none =>
   simp only [hg] at h
   obtain⟨v,hk,hv⟩:∃v,K v w∧dq E (rd fr) o.op (fun v' _=>v'=v) w:=by
    revert h hl;cases o.op <;> simp [mf]
    intro h;obtain⟨v,hk,hall⟩:=zL h;exact⟨v,hk,hall _ rfl⟩
   refine⟨v,hk,.inl ⟨by simp [Region.wanted,hg],fun w' hS=>?_⟩,by unfold j0;simp only [hg];exact hv⟩
   unfold j0 at hS;simp only [hg] at hS
   exact Dn hE hfr.rd hl hS
  | some g =>
   obtain⟨j,want⟩:=g
   simp only [hg] at h
   split at h <;> try exact h.elim
   rename_i gv hgv
   have hw:=wm hfr hg hgv
   cases hb:OG gv want with
   | true =>
    have h:=h.1 hb
    obtain⟨v,hk,hv⟩:∃v,K v w∧dq E (rd fr) o.op (fun v' _=>v'=v) w:=by
     revert h hl;cases o.op <;> simp [mf]
     intro h;obtain⟨v,hk,hall⟩:=zL h;exact⟨v,hk,hall _ rfl⟩
    refine⟨v,hk,.inl ⟨by rw [hw,hb],fun w' hS=>?_⟩,?_⟩
    ·unfold j0 at hS;simp only [hg,hgv] at hS
     exact Dn hE hfr.rd hl (hS.1 hb)
    ·unfold j0;simp only [hg,hgv];exact⟨fun _=>hv,fun hf=>absurd (hb ▸ hf:true=false) (by decide)⟩
   | false =>
    refine⟨undef,h.2 hb,.inr ⟨by rw [hw,hb],rfl⟩,?_⟩
    unfold j0;simp only [hg,hgv];exact⟨fun hf=>absurd (hb ▸ hf:false=true) (by decide),fun _=>rfl⟩
 | false =>
  simp only [Bool.false_eq_true,if_false]
  have hp:ww o.op=true:=by simpa [hl] using hq
  unfold j0 at h
  cases hg:o.guard with
  | none =>
   simp only [hg] at h
   obtain⟨v,hk,hr⟩:=CV hE hfr.rd hp h
   exact⟨v,hk,.inl ⟨by simp [Region.wanted,hg],fun w' _=>hr w'⟩⟩
  | some g =>
   obtain⟨j,want⟩:=g
   simp only [hg] at h
   split at h <;> try exact h.elim
   rename_i gv hgv
   have hw:=wm hfr hg hgv
   cases hb:OG gv want with
   | true =>
    obtain⟨v,hk,hr⟩:=CV hE hfr.rd hp (h.1 hb)
    exact⟨v,hk,.inl ⟨by rw [hw,hb],fun w' _=>hr w'⟩⟩
   | false=>exact⟨undef,h.2 hb,.inr ⟨by rw [hw,hb],rfl⟩⟩
theorem Fw {n:Nat}(hlt:∀(i:Nat)(o:Oper),ops[i]? = some o→∀d,o.dst=some d→d<n){ms:List Nat}(hms:LV ops ms=true)(hsel:Region.noSelect ops=true){Q:Exit→Act→World→Prop}(hQp:∀c a w,¬Q (.panic c) a w)
  {R:Act→Act→Prop} (hRr:∀a,R a a) (hRt:∀a b c,R a b→R b c→R a c) (hRp:∀(i:Nat) (o:Oper),ops[i]? = some o→∀a v,R a (a.put o.dst v)) :
  ∀(p:Jb) (top:Bool) (listed:Array Bool) (tk:List (Nat×(World→Prop))) (fr:Fr) (a:Act) (w:World) (k:KF) (fuel:Nat),
   ke ops ms p top listed (tk.map (·.1))=true→CC ops listed→gL n fr a→(∀q∈tk,q.2 w)→pb E ops.toList p fr tk k w →
   (∀fr' a' w',gL n fr' a'→R a a'→k fr' w'→Q .normal a' w') →
   (top=true→depth p≤fuel→qO E.P ops Q ms tk fuel listed a w) ∧
   (depth p≤fuel+1→∀j∈zd p,wpOp E.P ops Q j (fun a' w'=>(∀q∈mB ms j tk,q.2 w')∧qO E.P ops Q ms (mB ms j tk) fuel (listed.setIfInBounds j true) a' w') a w):=by
 intro p
 induction p with
 | done =>
  intro top listed tk fr a w k fuel hok hcl hfr htk h hk
  refine⟨fun _ _=>?_,fun _ j hj=>by cases hj⟩
  have hr:Region.ready .any ops listed=[]:=by simpa [ke] using hok
  have hq:=hk fr a w hfr (hRr a) h
  cases fuel with
  | zero=>exact⟨hr,hq⟩
  | succ n=>exact⟨fun _=>hq,by rw [hr];simp⟩
 | take i r ih =>
  intro top listed tk fr a w k fuel hok hcl hfr htk h hk
  refine⟨fun _ hd=>?_,fun _ j hj=>by cases hj⟩
  simp only [ke] at hok
  split at hok
  ·rename_i o ho
   simp only [Bool.and_eq_true] at hok
   obtain⟨⟨⟨hq,hr⟩,hf⟩,hok⟩:=hok
   have ho':r9 ops.toList i=some o:=by rw [qN];simpa using ho
   simp only [pb,ho'] at h
   obtain⟨v,hkv,hy⟩:=LK hE hfr hq h
   have hr':i∈Region.ready .any ops listed:=by simpa using hr
   cases fuel with
   | zero=>simp [depth] at hd
   | succ m =>
    have hd':depth r≤m:=by simp only [depth] at hd;omega
    have hdef:=hRp i o ho a v
    cases hl:mf o.op with
    | true =>
     simp only [hl,if_true] at hy hkv hok
     refine Hv hms ho (Region.noSelect_spec hsel) (fun c a w hp=>(hQp c _ w hp).elim) m tk listed a w (Region.free_spec ho hf) hcl hr' hy.1 hy.2 htk ?_
     exact(ih true _ ((i,_)::tk) _ _ w k m hok (hcl.set hr') (hfr.put o.dst v (hlt i o ho)) (fun q hq=>(List.mem_cons.1 hq).elim (fun e=>by subst e;exact hy.2) (htk q)) hkv
      (fun fr' a' w' h1 h2 h3=>hk fr' a' w' h1 (hRt _ _ _ hdef h2) h3)).1 rfl hd'
    | false =>
     simp only [hl,Bool.false_eq_true,if_false] at hy hkv hok
     refine Hv hms ho (Region.noSelect_spec hsel) (fun c a w hp=>(hQp c _ w hp).elim) m tk listed a w (Region.free_spec ho hf) hcl hr' hy trivial htk ?_
     refine tX m tk _ (fun q hq=>(List.mem_cons.1 hq).elim (fun e=>.inr fun w=>by subst e;trivial) .inl) _ _ _ ?_
     exact(ih true _ tk _ _ w k m hok (hcl.set hr') (hfr.put o.dst v (hlt i o ho)) htk hkv (fun fr' a' w' h1 h2 h3=>hk fr' a' w' h1 (hRt _ _ _ hdef h2) h3)).1 rfl hd'
  ·cases hok
 | run j hs r ih =>
  intro top listed tk fr a w k fuel hok hcl hfr htk h hk
  simp only [ke,Bool.and_eq_true] at hok
  obtain⟨⟨⟨htop,hr⟩,hall⟩,hok⟩:=hok
  have hr':j∈Region.ready .any ops listed:=by simpa using hr
  obtain⟨_,o,ho,_⟩:=mem_ready.1 hr'
  have ho':r9 ops.toList j=some o:=by rw [qN];simpa using ho
  simp only [pb,ho'] at h
  have key:∀m,depth r≤m→wpOp E.P ops Q j (fun a' w'=>(∀q∈mB ms j tk,q.2 w')∧qO E.P ops Q ms (mB ms j tk) m (listed.setIfInBounds j true) a' w') a w:=by
   intro m hn
   have hdrop:∀q∈mB ms j tk,hs.contains q.1=true:=by
    intro q hq
    simp only [mB,List.mem_filter,Bool.not_eq_true'] at hq
    simp only [List.all_eq_true] at hall
    have:=hall q.1 (List.mem_map_of_mem hq.1)
    rw [hq.2,Bool.or_false] at this;exact this
   have hstep:=EU hE (ops:=ops) (Q:=Q) (next:=fun a' w'=>(∀q∈mB ms j tk,q.2 w')∧qO E.P ops Q ms (mB ms j tk) m (listed.setIfInBounds j true) a' w') hfr h (fun v w' hv=>by
    obtain⟨hheld,hv⟩:=hv
    have hmem:=DA hheld
    refine⟨fun q hq=>hmem q (List.mem_filter.1 hq).1 (hdrop q hq),?_⟩
    refine tX m (tk.filter fun p=>hs.contains p.1) _ (fun q hq=>.inl (List.mem_filter.2 ⟨(List.mem_filter.1 hq).1,hdrop q hq⟩)) _ _ _ ?_
    have hok':ke ops ms r true (listed.setIfInBounds j true) ((tk.filter fun p=>hs.contains p.1).map (·.1))=true:=by
     have he:(tk.filter fun p=>hs.contains p.1).map (·.1)=(tk.map (·.1)).filter fun i=>hs.contains i:=by rw [List.filter_map];rfl
     rw [he];exact hok
    exact(ih true _ _ _ _ w' k m hok' (hcl.set hr') (hfr.put o.dst v (hlt j o ho)) (fun q hq=>hmem q (List.mem_filter.1 hq).1 (List.mem_filter.1 hq).2) hv
     (fun fr' a' w'' h1 h2 h3=>hk fr' a' w'' h1 (hRt _ _ _ (hRp j o ho a v) h2) h3)).1 rfl hn)
   unfold wpOp
   simp only [ho]
   split
   ·rename_i hw;rw [if_pos hw] at hstep;exact .inl hstep
   ·rename_i hw;rw [if_neg hw] at hstep;exact hstep
  refine⟨fun ht hd=>?_,fun hd j' hj'=>?_⟩
  ·cases fuel with
   | zero=>simp [depth] at hd
   | succ n =>
    refine⟨fun he=>(by rw [he] at hr';cases hr'),fun j' hj'=>?_⟩
    rw [ht] at htop
    simp only [Bool.not_true,Bool.false_or,List.all_eq_true,beq_iff_eq] at htop
    rw [htop j' hj']
    exact key _ (by simp only [depth] at hd;omega)
  ·simp only [zd,List.mem_singleton] at hj'
   subst hj'
   exact key fuel (by simp only [depth] at hd;omega)
 | both p q ihp ihq =>
  intro top listed tk fr a w k fuel hok hcl hfr htk h hk
  simp only [ke,Bool.and_eq_true] at hok
  obtain⟨⟨⟨hne,htop⟩,hp⟩,hq⟩:=hok
  have key:∀n,depth (.both p q)≤n+1→∀j∈zd p++zd q,wpOp E.P ops Q j (fun a' w'=>(∀q∈mB ms j tk,q.2 w')∧qO E.P ops Q ms (mB ms j tk) n (listed.setIfInBounds j true) a' w') a w:=by
   intro n hn j hj
   simp only [depth] at hn
   rcases List.mem_append.1 hj with hj | hj
   ·exact(ihp false listed tk fr a w k n hp hcl hfr htk h.1 hk).2 (by omega) j hj
   ·exact(ihq false listed tk fr a w k n hq hcl hfr htk h.2 hk).2 (by omega) j hj
  refine⟨fun ht hd=>?_,fun hd j hj=>key fuel hd j hj⟩
  cases fuel with
  | zero=>simp only [depth] at hd;omega
  | succ n =>
   refine⟨fun he=>?_,fun j' hj'=>?_⟩
   ·rw [he] at hne;simp at hne
   ·rw [ht] at htop
    simp only [Bool.not_true,Bool.false_or,List.all_eq_true] at htop
    exact key n (by omega) j' (by simpa using htop j' hj')
end
theorem p7:∀(l:List Edge)(i:Nat),(kE l).testBit i=true↔∃e∈l,Region.binds .any e=true∧e.on=i
 | [],i=>by simp [kE]
 | e::l,i=>by
  have ih:=p7 l i
  simp only [kE]
  cases hb:Region.binds .any e with
  | true=>simp [hb,Nat.testBit_or,ih,Nat.testBit_two_pow]
  | false=>simp [hb,ih]
theorem xY:∀{l:List Oper}{am:List Nat},O7 l am=true→am=l.map fun o=>kE o.after.toList
 | [],[],_=>rfl
 | [],_::_,h=>by cases h
 | _::_,[],h=>by cases h
 | o::l,a::am,h=>by
  simp only [O7,Bool.and_eq_true] at h
  rw [List.map_cons,←xY h.2,Nat.eq_of_beq_eq_true h.1]
theorem tu {ms:List Nat}{j:Nat}:∀{l:List Edge}{c:Nat},vQ ms j l=some c→∀i,c.testBit i=true→∃e∈l,Region.binds .any e=true∧e.on<j∧(e.on=i∨((r9 ms e.on).getD 0).testBit i=true)
 | [],c,h,i,hi=>by simp only [vQ,Option.some.injEq] at h;subst h;simp at hi
 | e::l,c,h,i,hi=>by
  simp only [vQ] at h
  split at h
  ·rename_i m hb hm
   split at h
   ·rename_i hlt
    cases h
    simp only [Nat.testBit_or,Bool.or_eq_true,Nat.testBit_two_pow,decide_eq_true_eq] at hi
    rcases hi with hi | hi
    ·exact⟨e,by simp,hb,Nat.le_of_ble_eq_true hlt,hi⟩
    ·obtain⟨e',he',h'⟩:=tu hm i hi
     exact⟨e',List.mem_cons_of_mem _ he',h'⟩
   ·cases h
  ·rename_i m hb hm
   cases h
   obtain⟨e',he',h'⟩:=tu hm i hi
   exact⟨e',List.mem_cons_of_mem _ he',h'⟩
  ·cases h
theorem EW {ms:List Nat}:∀{j:Nat}{l:List Oper}{r:List Nat},J3 ms j l r=true→∀k o,l[k]? = some o→∀i,((r9 r k).getD 0).testBit i=true →
  ∃e∈o.after.toList,Region.binds .any e=true∧e.on<j+k∧(e.on=i∨((r9 ms e.on).getD 0).testBit i=true)
 | j,[],r,h,k,o,ho,i,hi=>by simp at ho
 | j,o'::l,[],h,k,o,ho,i,hi=>by cases h
 | j,o'::l,m::r,h,k,o,ho,i,hi=>by
  simp only [J3,Bool.and_eq_true] at h
  obtain⟨h1,h2⟩:=h
  cases k with
  | zero =>
   simp at ho;subst ho
   split at h1
   ·rename_i c hc
    have:=Nat.eq_of_beq_eq_true h1
    subst this
    exact tu hc i (by simpa [r9] using hi)
   ·cases h1
  | succ k =>
   have:=EW h2 k o (by simpa using ho) i (by simpa [r9] using hi)
   rw [show j+(k+1)=j+1+k by omega];exact this
theorem NM {ops:Array Oper}{ms:List Nat}(h:J3 ms 0 ops.toList ms=true):LV ops ms=true:=by
 simp only [LV,List.all_eq_true,List.mem_range,Bool.or_eq_true,Bool.not_eq_true']
 intro j hj i _
 cases hb:((r9 ms j).getD 0).testBit i with
 | false=>exact .inl rfl
 | true =>
  refine .inr ?_
  have ho:ops[j]? = some ops[j]:=Array.getElem?_eq_getElem hj
  obtain⟨e,he,hbd,hlt,hor⟩:=EW h j ops[j] (by simp) i hb
  simp only [ho,Array.any_eq_true',Bool.and_eq_true,Bool.or_eq_true,decide_eq_true_eq,beq_iff_eq]
  exact⟨e,by simpa using he,⟨hbd,by omega⟩,hor⟩
def B4 (n:Nat)(listed:Array Bool)(L:Nat):Prop:=listed.size=n∧(∀k,listed.getD k false=true↔k<n∧L.testBit k=true)∧∀k,L.testBit k=true→k<n
theorem B4.set {n:Nat}{listed:Array Bool}{L i:Nat}(h:B4 n listed L)(hi:i<n):B4 n (listed.setIfInBounds i true) (L ||| 2 ^ i):=by
 refine⟨by simp [h.1],fun k=>?_,fun k hk=>?_⟩
 ·by_cases hik:i=k
  ·subst hik
   simp [Array.getD_eq_getD_getElem?,h.1,hi,Nat.testBit_or]
  ·rw [getD_set_ne false hik,h.2.1 k]
   simp [Nat.testBit_or,hik]
 ·simp only [Nat.testBit_or,Bool.or_eq_true,Nat.testBit_two_pow,decide_eq_true_eq] at hk
  rcases hk with hk | hk
  ·exact h.2.2 k hk
  ·omega
theorem Sa {a L:Nat}:Nat.beq (a &&& L) a=true↔∀k,a.testBit k=true→L.testBit k=true:=by
 constructor
 ·intro h k hk
  have:=Nat.eq_of_beq_eq_true h
  rw [←this,Nat.testBit_and,Bool.and_eq_true] at hk
  exact hk.2
 ·intro h
  have:a &&& L=a:=by
   apply Nat.eq_of_testBit_eq
   intro k
   rw [Nat.testBit_and]
   cases hk:a.testBit k with
   | false=>rfl
   | true=>rw [h k hk];rfl
  rw [this];exact Nat.beq_refl a
section
variable {ops:Array Oper}{am:List Nat}(ham:O7 ops.toList am=true){listed:Array Bool}{L:Nat}(hb:B4 ops.size listed L)
include ham hb
theorem DW {i a:Nat}(ha:r9 am i=some a):IU a L i=true↔i∈Region.ready .any ops listed:=by
 have hm:=xY ham
 rw [qN,hm,List.getElem?_map] at ha
 simp only [Option.map_eq_some_iff] at ha
 obtain⟨o,ho,rfl⟩:=ha
 have ho':ops[i]? = some o:=by simpa using ho
 have hi:i<ops.size:=(Array.getElem?_eq_some_iff.1 ho').1
 rw [mem_ready]
 simp only [IU,Bool.and_eq_true,Bool.not_eq_true',Sa]
 constructor
 ·rintro⟨h1,h2⟩
  refine⟨?_,o,ho',fun e he hbd=>(hb.2.1 e.on).2 ?_⟩
  ·have:¬listed.getD i false=true:=fun h=>by rw [((hb.2.1 i).1 h).2] at h1;cases h1
   have hsz:=hb.1
   simp only [Array.getD_eq_getD_getElem?] at this ⊢
   rw [Array.getElem?_eq_getElem (by omega)] at this ⊢
   simpa using this
  ·have:=h2 e.on ((p7 _ _).2 ⟨e,by simpa using he,hbd,rfl⟩)
   exact⟨hb.2.2 _ this,this⟩
 ·rintro⟨h1,o',ho'',hall⟩
  rw [ho'] at ho'';cases ho''
  refine⟨?_,fun k hk=>?_⟩
  ·cases hL:L.testBit i with
   | false=>rfl
   | true =>
    have:=(hb.2.1 i).2 ⟨hi,hL⟩
    simp only [Array.getD_eq_getD_getElem?] at this h1
    have hsz:=hb.1
    rw [Array.getElem?_eq_getElem (by omega)] at this h1
    simp at this h1;rw [this] at h1;cases h1
  ·obtain⟨e,he,hbd,rfl⟩:=(p7 _ _).1 hk
   exact((hb.2.1 e.on).1 (hall e (by simpa using he) hbd)).2
theorem xP {hs:List Nat}:∀{i:Nat}{as:List Nat},Bj L hs i as=true→(∀k,r9 as k=r9 am (i+k))→∀j,i≤j→j∈Region.ready .any ops listed→hs.contains j=true
 | i,[],h,hk,j,hij,hj=>by
  obtain⟨_,o,ho,_⟩:=mem_ready.1 hj
  have hm:=xY ham
  have h1:=hk (j-i)
  rw [show i+(j-i)=j by omega,qN,qN,hm,List.getElem?_map] at h1
  have:ops.toList[j]? = some o:=by simpa using ho
  rw [this] at h1;simp at h1
 | i,a::as,h,hk,j,hij,hj=>by
  simp only [Bj,Bool.and_eq_true] at h
  by_cases he:j=i
  ·subst he
   have h0:=hk 0
   simp only [r9,Nat.add_zero] at h0
   have hr:=(DW ham hb h0.symm).2 hj
   have h1:=h.1
   rw [hr] at h1
   simpa using h1
  ·exact xP h.2 (fun k=>by have:=hk (k+1);simp only [r9] at this;rw [this];congr 1;omega) j (by omega) hj
theorem Oq {i:Nat}{oi:Oper}(hi:ops[i]? = some oi)(h:JA L i oi ops 0 ops.toList am=true):Region.free .any ops listed i=true:=by
 have hm:=xY ham
 have key:∀(l:List Oper) (j:Nat) (as:List Nat),JA L i oi ops j l as=true→as=l.map (fun o=>kE o.after.toList)→∀k o,l[k]? = some o→(j+k=i∨L.testBit (j+k)=true∨(kE o.after.toList).testBit i=true∨oi.apart ops o=true):=by
  intro l
  induction l with
  | nil=>intro j as h he k o ho;simp at ho
  | cons x l ih =>
   intro j as h he k o ho
   cases as with
   | nil=>cases h
   | cons a as =>
    simp only [List.map_cons,List.cons.injEq] at he
    simp only [JA,Bool.and_eq_true,Bool.or_eq_true] at h
    cases k with
    | zero =>
     simp at ho;subst ho
     rw [←he.1]
     rcases h.1 with ((h1 | h1) | h1) | h1
     ·exact .inl (Nat.eq_of_beq_eq_true h1)
     ·exact .inr (.inl h1)
     ·exact .inr (.inr (.inl h1))
     ·exact .inr (.inr (.inr h1))
    | succ k =>
     have:=ih (j+1) as h.2 he.2 k o (by simpa using ho)
     rw [show j+(k+1)=j+1+k by omega];exact this
 simp only [Region.free,hi,List.all_eq_true,List.mem_range,Bool.or_eq_true,beq_iff_eq]
 intro j hj
 have ho:ops[j]? = some ops[j]:=Array.getElem?_eq_getElem hj
 have:=key ops.toList 0 am h hm j ops[j] (by simp)
 rw [Nat.zero_add] at this
 rcases this with h1 | h1 | h1 | h1
 ·exact .inl (.inl h1)
 ·refine .inl (.inr ?_)
  have h2:=(hb.2.1 j).2 ⟨hj,h1⟩
  have hsz:=hb.1
  simp only [Array.getD_eq_getD_getElem?] at h2 ⊢
  rw [Array.getElem?_eq_getElem (by omega)] at h2 ⊢
  simpa using h2
 ·refine .inr ?_
  simp only [ho,Bool.or_eq_true,Array.any_eq_true',Bool.and_eq_true,beq_iff_eq]
  obtain⟨e,he,hbd,hon⟩:=(p7 _ _).1 h1
  exact .inl ⟨e,by simpa using he,hbd,hon⟩
 ·refine .inr ?_
  simp only [ho,Bool.or_eq_true]
  exact .inr h1
end
theorem tG:∀p:sn,Cu p=zd p.plan
 | .done=>rfl
 | .take _ _ _=>rfl
 | .run _ _ _ _=>rfl
 | .both p q=>by simp only [Cu,zd,tG p,tG q]
theorem Tt {ops:Array Oper}{am ms:List Nat}(ham:O7 ops.toList am=true):∀(p:sn)(top:Bool)(listed:Array Bool)(L:Nat)(tk:List Nat),B4 ops.size listed L→QZ ops ops.toList am ms p top L tk=true →
  ke ops ms p.plan top listed tk=true:=by
 intro p
 induction p with
 | done =>
  intro top listed L tk hb h
  simp only [QZ] at h
  have:Region.ready .any ops listed=[]:=by
   rw [List.eq_nil_iff_forall_not_mem]
   intro j hj
   have:=xP ham hb h (fun k=>by rw [Nat.zero_add]) j (Nat.zero_le _) hj
   simp at this
  simp [ke,this]
 | take i L' r ih =>
  intro top listed L tk hb h
  simp only [QZ] at h
  split at h
  ·rename_i o a ho ha
   simp only [Bool.and_eq_true] at h
   obtain⟨⟨⟨⟨hq,hr⟩,hf⟩,hL⟩,h⟩:=h
   have ho':ops[i]? = some o:=by rw [qN] at ho;simpa using ho
   have hi:i<ops.size:=(Array.getElem?_eq_some_iff.1 ho').1
   have hr':=(DW ham hb ha).1 (by simp only [IU,Bool.and_eq_true];exact hr)
   have hL':=Nat.eq_of_beq_eq_true hL
   subst hL'
   have:=ih true _ _ _ (hb.set hi) h
   simp only [ke,ho',Bool.and_eq_true]
   refine⟨⟨⟨hq,by simpa using hr'⟩,Oq ham hb ho' hf⟩,?_⟩
   cases hl:mf o.op with
   | true=>rw [hl] at this;simpa using this
   | false=>rw [hl] at this;simpa using this
  ·cases h
 | run j hs L' r ih =>
  intro top listed L tk hb h
  simp only [QZ] at h
  split at h
  ·rename_i a ha
   simp only [Bool.and_eq_true,Bool.or_eq_true,Bool.not_eq_true'] at h
   obtain⟨⟨⟨⟨htop,hr⟩,hall⟩,hL⟩,h⟩:=h
   have hr':=(DW ham hb ha).1 (by simp only [IU,Bool.and_eq_true,Bool.not_eq_true'];exact hr)
   obtain⟨_,o,ho,_⟩:=mem_ready.1 hr'
   have hi:j<ops.size:=(Array.getElem?_eq_some_iff.1 ho).1
   have hL':=Nat.eq_of_beq_eq_true hL
   subst hL'
   have:=ih true _ _ _ (hb.set hi) h
   simp only [ke,Bool.and_eq_true,Bool.or_eq_true,Bool.not_eq_true']
   refine⟨⟨⟨?_,by simpa using hr'⟩,hall⟩,this⟩
   refine htop.imp id fun ht=>?_
   simp only [List.all_eq_true,beq_iff_eq]
   intro x hx
   have:=xP ham hb ht (fun k=>by rw [Nat.zero_add]) x (Nat.zero_le _) hx
   simpa using this
  ·cases h
 | both p q ihp ihq =>
  intro top listed L tk hb h
  simp only [QZ,Bool.and_eq_true,Bool.or_eq_true,Bool.not_eq_true'] at h
  obtain⟨⟨⟨hne,htop⟩,hp⟩,hq⟩:=h
  simp only [ke,Bool.and_eq_true,Bool.or_eq_true,Bool.not_eq_true']
  refine⟨⟨⟨?_,?_⟩,ihp _ _ _ _ hb hp⟩,ihq _ _ _ _ hb hq⟩
  ·cases he:Region.ready .any ops listed with
   | cons x l=>rfl
   | nil =>
    exfalso
    have hbad:∀(i:Nat) (as:List Nat),(∀k,r9 as k=r9 am (i+k))→Bj L [] i as=true:=by
     intro i as
     induction as generalizing i with
     | nil=>intro _;rfl
     | cons a as iha =>
      intro hk
      simp only [Bj,Bool.and_eq_true]
      refine⟨?_,iha (i+1) fun k=>by have:=hk (k+1);simp only [r9] at this;rw [this];congr 1;omega⟩
      have h0:=hk 0
      simp only [r9,Nat.add_zero] at h0
      cases hr:IU a L i with
      | false=>(simp [IU] at hr ⊢) <;> exact hr
      | true =>
       have:=(DW ham hb h0.symm).1 hr
       rw [he] at this;cases this
    rw [hbad 0 am fun k=>by rw [Nat.zero_add]] at hne
    cases hne
  ·refine htop.imp id fun ht=>?_
   simp only [List.all_eq_true]
   intro x hx
   have:=xP ham hb ht (fun k=>by rw [Nat.zero_add]) x (Nat.zero_le _) hx
   rw [tG,tG] at this
   exact this
theorem KY (n:Nat):B4 n (Array.replicate n false) 0:=by
 refine⟨by simp,fun k=>?_,fun k hk=>by simp at hk⟩
 have h:(Array.replicate n false).getD k false=false:=by
  simp only [Array.getD_eq_getD_getElem?,Array.getElem?_replicate]
  split <;> rfl
 simp [h]
theorem Dj {ops:Array Oper}{d:Sd}(h:Lw ops d=true):Region.noSelect ops=true∧LV ops d.ms=true∧ke ops d.ms d.plan.plan true (Array.replicate ops.size false) []=true∧depth d.plan.plan≤ops.size:=by
 simp only [Lw,Bool.and_eq_true] at h
 obtain⟨⟨⟨⟨h1,h2⟩,h3⟩,h4⟩,h5⟩:=h
 exact⟨h1,NM h3,Tt h2 _ _ _ _ _ (KY _) h4,Nat.le_of_ble_eq_true h5⟩
end Go.Proofs.YtoealglbimbbmaaGreatDoor.S
