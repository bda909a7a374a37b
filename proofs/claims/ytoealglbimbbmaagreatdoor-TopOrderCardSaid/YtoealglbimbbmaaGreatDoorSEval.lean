import Derived.Test.YtoealglbimbbmaaGreatDoorSRun
namespace Go.Proofs.YtoealglbimbbmaaGreatDoor.S
open Go
def CP (P:Program)(f:FuncId)(args:List Value)(K:KV)(w:World):Prop :=
 (∃fn,P.funcs[f]? = some fn∧fn.body.isNone=false∧(fn.name == "runtime.NumGoroutine")=false) ∧
 Calls P f args.toArray w fun e w'=>match e with | .returned v=>K v w' | _=>False
theorem CP.mono {P:Program}{f:FuncId}{args:List Value}{K K':KV}{w:World}(h:CP P f args K w)(hk:∀v w',K v w'→K' v w'):CP P f args K' w :=
 ⟨h.1,h.2.mono fun e w' he=>by cases e <;> first | exact hk _ _ he | exact he⟩
def Tp (P:Program)(f:Value)(vs:List Value)(K:KV)(w:World):Prop:=match f with
 | .func (.func g) first captured=>CP P g (first.toList++vs++captured.toList) K w
 | _=>False
def El (P:Program)(r:Value)(name:String)(vs:List Value)(K:KV)(w:World):Prop:=match r with
 | .iface t v=>∃f v',(method (P.types.size+Made.depth) t v name).run P w=.ok (f,v') w∧CP P f (v'::vs) K w
 | _=>False
structure An where
 P:Program
 eqs:TypeId→Option (List CK)
structure An.OK (E:An):Prop where
 eqs:∀t ks,E.eqs t=some ks→Ty E.P t ks
 mixed:E.P.follows .mixedOrders=true
abbrev bz (o:Option Value)(k:Value→Prop):Prop:=match o with | some v=>k v | none=>False
abbrev QG (ρ:Operand→Option Value):List Operand→Option (List Value)
 | []=>some []
 | x::l=>match ρ x,QG ρ l with | some v,some vs=>some (v::vs) | _,_=>none
abbrev ya (ρ:Operand→Option Value):List (Nat×Operand)→Option (List (Nat×Value))
 | []=>some []
 | x::l=>match ρ x.2,ya ρ l with | some v,some vs=>some ((x.1,v)::vs) | _,_=>none
abbrev Ur (ρ:Operand→Option Value):Option Operand→Option (Option Value)
 | none=>some none
 | some x=>match ρ x with | some v=>some (some v) | none=>none
abbrev wu (pl:List (Nat×Nat)):List (Nat×Value)→Option (List (Nat×Nat×Value))
 | []=>some []
 | x::l=>match r9 pl x.1,wu pl l with | some q,some r=>some ((q.1,q.2,x.2)::r) | _,_=>none
abbrev Nt (sz:Nat):List (Nat×Value)→List (Nat×Nat×Value)
 | []=>[]
 | x::l=>(x.1*sz,sz,x.2)::Nt sz l
abbrev xL (P:Program)(t:TypeId):Option TypeInfo:=match P.underlying t with | some (.slice e)=>P.info? e | _=>none
abbrev dq (E:An)(ρ:Operand→Option Value)(o:Op)(K:KV)(w:World):Prop :=
 match o with
 | .move x | .assign x=>bz (ρ x) fun v=>K v w
 | .pick c a b=>bz (ρ c) fun c=>bz (ρ a) fun a=>bz (ρ b) fun b=>bd c a b K w
 | .alloc e=>match E.P.info? e with
  | some i=>bz i.zero fun z=>eI z.cells K w
  | none=>False
 | .box _ x=>bz (ρ x) fun v=>eI v.cells K w
 | .build t parts=>match E.P.underlying t,E.P.info? t,ya ρ parts.toList with
  | some (.struct fs),some i,some vs=>match places E.P fs.toList with
   | some pl=>match wu pl vs with
    | some ps=>bz i.zero fun z=>ap z.cells.toList ps K w
    | none=>False
   | none=>False
  | _,_,_=>False
 | .buildSlice t len parts=>match xL E.P t,ya ρ parts.toList with
  | some i,some vs=>bz i.zero fun z=>match Nat.beq z.cells.size i.size with | true=>ak z.cells.toList len (Nt i.size vs) K w | false=>False
  | _,_=>False
 | .load t a=>match E.P.underlying t,E.P.info? t with
  | some d,some i=>bz (ρ a) fun a=>match md d with | true=>aj i.size a K w | false=>ab a K w
  | _,_=>False
 | .store t a x=>match E.P.info? t with
  | some i=>bz (ρ a) fun a=>bz (ρ x) fun x=>ag i.size a x K w
  | none=>False
 | .nilCheck x=>bz (ρ x) fun x=>ai x K w
 | .binOp op t x y _=>bz (ρ x) fun x=>bz (ρ y) fun y=>match E.P.underlying t with
  | some (.int _)=>aa op x y K w
  | some .bool=>fI op x y K w
  | some (.pointer _)=>eW op x y K w
  | some (.slice _)=>eM op x y K w
  | some .string=>qw op x y K w
  | some (.struct _)=>match E.eqs t with
   | some ks=>jf ks op x y K w
   | none=>False
  | _=>False
 | .unOp .not _ x=>bz (ρ x) fun x=>ga x K w
 | .convert src dst x=>match E.P.underlying src,E.P.underlying dst with
  | some (.int _),some (.int k)=>bz (ρ x) fun x=>ii k x K w
  | _,_=>False
 | .makeFunc fn first captured=>match QG ρ first.toList,QG ρ captured.toList with
  | some a,some b=>K (.func fn a.toArray b.toArray) w
  | _,_=>False
 | .makeSlice t l c=>match xL E.P t with
  | some i=>bz i.zero fun z=>match Nat.beq z.cells.size i.size with | true=>bz (ρ l) fun l=>bz (ρ c) fun c=>eF i.bytes z.cells.toList l c K w | false=>False
  | none=>False
 | .slice t x lo hi none=>match xL E.P t,Ur ρ lo,Ur ρ hi with
  | some i,some lo,some hi=>bz (ρ x) fun x=>fL i.size x lo hi K w
  | none,some lo,some hi=>match E.P.underlying t with
   | some .string=>bz (ρ x) fun x=>tA x lo hi K w
   | _=>False
  | _,_,_=>False
 | .fieldAddr s x f=>match E.P.underlying s with
  | some (.struct fs)=>match r9 fs.toList f with
   | some fd=>match E.P.info? fd.type with
    | some i=>match Nat.beq i.size 0 with | true=>False | false=>bz (ρ x) fun x=>ad fd.offset x K w
    | none=>False
   | none=>False
  | _=>False
 | .field s x f=>match E.P.underlying s with
  | some (.struct fs)=>match r9 fs.toList f with
   | some fd=>match E.P.info? fd.type,E.P.underlying fd.type with
    | some i,some d=>bz (ρ x) fun x=>oC (md d) fd.offset i.size x K w
    | _,_=>False
   | none=>False
  | _=>False
 | .indexAddr t x ix=>match E.P.underlying t with
  | some (.slice e)=>match E.P.info? e with
   | some i=>bz (ρ x) fun x=>bz (ρ ix) fun ix=>bt i.size x ix K w
   | none=>False
  | some (.array n e)=>match E.P.info? e with
   | some i=>bz (ρ x) fun x=>bz (ρ ix) fun ix=>nP n i.size x ix K w
   | none=>False
  | _=>False
 | .extract t i=>bz (ρ t) fun t=>ao i t K w
 | .call { callee:=.builtin .len,args,argTypes }=>match args.toList,argTypes.toList with
  | [x],[t]=>match E.P.underlying t with
   | some (.slice _)=>bz (ρ x) fun x=>bp x K w
   | _=>False
  | _,_=>False
 | .call { callee:=.builtin .max,args,.. }=>match QG ρ args.toList with
  | some (x::l)=>lR x l K w
  | _=>False
 | .call { callee:=.builtin .min,args,.. }=>match QG ρ args.toList with
  | some (x::l)=>iO x l K w
  | _=>False
 | .call { callee:=.builtin .append,args,argTypes }=>match args.toList,argTypes.toList with
  | [s,x],[t,t']=>match Nat.beq t t' with
   | true=>match xL E.P t with
    | some i=>bz i.zero fun z=>match Nat.beq z.cells.size i.size with | true=>bz (ρ s) fun s=>bz (ρ x) fun x=>av i.size i.bytes s x K w | false=>False
    | none=>False
   | false=>False
  | _,_=>False
 | .call { callee:=.value (.func f),args,.. }=>match QG ρ args.toList with
  | some vs=>CP E.P f vs K w
  | none=>False
 | .call { callee:=.value (.tmp t),args,.. }=>match QG ρ args.toList with
  | some vs=>bz (ρ (.tmp t)) fun f=>Tp E.P f vs K w
  | none=>False
 | .makeInterface t x=>match E.P.underlying t with
  | some (.interface _)=>False
  | some _=>bz (ρ x) fun x=>qm t x K w
  | none=>False
 | .typeAssert x _ t true=>match E.P.underlying t,E.P.info? t with
  | some (.interface _),_=>False
  | some _,some i=>bz i.zero fun z=>bz (ρ x) fun x=>xV t z x K w
  | _,_=>False
 | .call { callee:=.invoke recv name,args,.. }=>match QG ρ args.toList with
  | some vs=>bz (ρ recv) fun r=>El E.P r name vs K w
  | none=>False
 | _=>False
theorem al {o:Option Value}{k:Value→Prop}(h:bz o k):∃v,o=some v∧k v:=by
 unfold bz at h
 split at h
 ·exact⟨_,rfl,h⟩
 ·exact h.elim
section
variable {ρ:Operand→Option Value}{σ:Operand→Value}
theorem n9 (hρ:∀x v,ρ x=some v→σ x=v):∀(l:List Operand)(vs:List Value),QG ρ l=some vs→l.map σ=vs
 | [],vs,h=>by simp [QG] at h;simp [h]
 | x::l,vs,h=>by
  simp only [QG] at h
  split at h
  ·rename_i v vs' hv hvs
   cases h
   simp [hρ x v hv,n9 hρ l vs' hvs]
  ·cases h
theorem tN (hρ:∀x v,ρ x=some v→σ x=v):∀(l:List (Nat×Operand))(vs:List (Nat×Value)),ya ρ l=some vs→(l.map fun x=>(x.1,σ x.2))=vs
 | [],vs,h=>by simp [ya] at h;simp [h]
 | x::l,vs,h=>by
  simp only [ya] at h
  split at h
  ·rename_i v vs' hv hvs
   cases h
   simp [hρ x.2 v hv,tN hρ l vs' hvs]
  ·cases h
theorem AB (hρ:∀x v,ρ x=some v→σ x=v)(o:Option Operand)(v:Option Value)(h:Ur ρ o=some v):o.map σ=v:=by
 cases o with
 | none=>simp [Ur] at h;simp [h]
 | some x =>
  simp only [Ur] at h
  split at h
  ·rename_i u hu;cases h;simp [hρ x u hu]
  ·cases h
theorem yX (pl:List (Nat×Nat)):∀(l:List (Nat×Value))(ps:List (Nat×Nat×Value)),wu pl l=some ps→(l.mapM fun x=>(r9 pl x.1).map fun q=>(q.1,q.2,x.2))=some ps
 | [],ps,h=>by simp [wu] at h;simp [h]
 | x::l,ps,h=>by
  simp only [wu] at h
  split at h
  ·rename_i q r hq hr
   cases h
   simp [List.mapM_cons,hq,yX pl l r hr]
  ·cases h
theorem EF (sz:Nat):∀(l:List (Nat×Value)),Nt sz l=l.map fun x=>(x.1*sz,sz,x.2)
 | []=>rfl
 | x::l=>by simp [Nt,EF sz l]
end
def Ia (P:Program)(s:Sem Next)(K:KV)(w:World):Prop:=∃v w',(s.run P w=.ok (.value v) w'∨(s.run P w=.ok .skip w'∧v=undef))∧K v w'
theorem Ia.upon {P:Program}{o:Oper}{a:Act}{next:Act→World→Prop}{Q:Exit→Act→World→Prop}{s:Sem Next}{K:KV}{w:World}(h:Ia P s K w)
  (hK:∀v w',K v w'→next (a.put o.dst v) w'):o.upon P a next Q (s.run P w):=by
 obtain⟨v,w',hr | ⟨hr,rfl⟩,hk⟩:=h
 ·rw [hr];exact hK _ _ hk
 ·rw [hr];exact hK _ _ hk
theorem qa {P:Program}{t:TypeId}{i:TypeInfo}(h:xL P t=some i):∃e,P.underlying t=some (.slice e)∧P.info? e=some i:=by
 unfold xL at h
 split at h
 ·exact⟨_,by assumption,h⟩
 ·cases h
theorem CP.upon {P:Program}{o:Oper}{a:Act}{next:Act→World→Prop}{Q:Exit→Act→World→Prop}{f:FuncId}{vs:List Value}{K:KV}{w:World}(h:CP P f vs K w)
  (hK:∀v w',K v w'→next (a.put o.dst v) w'):o.upon P a next Q ((callFunc f vs.toArray).run P w):=by
 obtain⟨⟨fn,hf,hb,hn⟩,hc⟩:=h
 have:(callFunc f vs.toArray).run P w=.ok (.enter f vs.toArray) w:=by
  simp only [callFunc,Sem.run_bind]
  have hp:(program).run P w=.ok P w:=rfl
  simp only [hp,Result.andThen_ok,hf,hn,hb,Bool.false_eq_true,if_false,Sem.run_pure]
 rw [this,Oper.upon_enter]
 refine hc.mono fun e w' he=>?_
 cases e with
 | returned v=>exact hK v w' he
 | panicked c=>exact he.elim
 | outgrown=>exact he.elim
theorem kA {P:Program}(op:BinOp)(t:TypeId)(x y:Operand)(x' y':Value)(w:World)(h:(∃k n,x'=.int k n)∨(∃b,x'=.bool b)∨(∃a,x'=.pointer a)∨(∃a n m,x'=.slice a n m)∨∃s,x'=.string s) :
  (eqGuard op t x y x' y').run P w=.ok () w:=by
 rcases h with ⟨k,n,rfl⟩ | ⟨b,rfl⟩ | ⟨a,rfl⟩ | ⟨a,n,m,rfl⟩ | ⟨s,rfl⟩
 ·rw [eqGuard_at_int];exact Sem.run_pure _ _ _
 ·rw [eqGuard_at_bool];exact Sem.run_pure _ _ _
 ·rw [eqGuard_at_pointer];exact Sem.run_pure _ _ _
 ·rw [eqGuard_at_slice];exact Sem.run_pure _ _ _
 ·rw [eqGuard_at_string];exact Sem.run_pure _ _ _
theorem OA {op:BinOp}{x y:Value}{K:KV}{w:World}(h:aa op x y K w):∃k n,x=.int k n:=by
 unfold aa at h;split at h <;> first | exact⟨_,_,rfl⟩ | exact h.elim
theorem Lb {op:BinOp}{x y:Value}{K:KV}{w:World}(h:fI op x y K w):∃b,x=.bool b:=by
 unfold fI at h;split at h <;> first | exact⟨_,rfl⟩ | exact h.elim
theorem ND {op:BinOp}{x y:Value}{K:KV}{w:World}(h:eW op x y K w):∃b,x=.pointer b:=by
 unfold eW at h;split at h <;> first | exact⟨_,rfl⟩ | exact h.elim
theorem Pc {op:BinOp}{x y:Value}{K:KV}{w:World}(h:qw op x y K w):∃s,x=.string s:=by
 unfold qw at h;split at h <;> first | exact⟨_,rfl⟩ | exact h.elim
theorem JL {op:BinOp}{x y:Value}{K:KV}{w:World}(h:eM op x y K w):∃a n m,x=.slice a n m:=by
 unfold eM at h;split at h <;> first | exact⟨_,_,_,rfl⟩ | exact h.elim
def rj:Op→Bool
 | .store ..=>false
 | .call { callee:=.value _,.. }=>false
 | .call { callee:=.invoke ..,.. }=>false
 | _=>true
def Ji (P:Program)(s:Sem Next)(K:KV)(w:World):Prop:=∃v w',s.run P w=.ok (.value v) w'∧K v w'
theorem qP.yieldsV {P:Program}{s:Sem Value}{s':Sem Next}{K:KV}{w:World}(h:qP P s K w)(hs:s'=(do pure (.value (←s)))):Ji P s' K w:=by
 obtain⟨v,w',hr,hk⟩:=h
 exact⟨v,w',by rw [hs];simp only [Sem.run_bind,hr,Result.andThen_ok,Sem.run_pure],hk⟩
theorem Ct {E:An}(hE:E.OK){o:Oper}{a:Act}{ρ:Operand→Option Value}(hρ:∀x v,ρ x=some v→a.eval x=v){K:KV}{w:World}(hp:rj o.op=true)
  (h:dq E ρ o.op K w):Ji E.P (execOp a.eval o) K w:=by
 obtain⟨dst,op,type,pos,after,guard⟩:=o
 simp only at h hp
 unfold dq at h
 split at h
 case h_1 x=>obtain⟨v,hv,hk⟩:=al h;exact⟨v,w,by simp [execOp,hρ _ _ hv],hk⟩
 case h_2 x=>obtain⟨v,hv,hk⟩:=al h;exact⟨v,w,by simp [execOp,hρ _ _ hv],hk⟩
 case h_3 c x y =>
  obtain⟨c',hc,h⟩:=al h;obtain⟨x',hx,h⟩:=al h;obtain⟨y',hy,h⟩:=al h
  obtain⟨t,rfl⟩:∃t,c'=.bool t:=by cases c' <;> first | exact⟨_,rfl⟩ | exact h.elim
  refine⟨_,w,?_,h⟩
  simp only [execOp,hρ _ _ hc,hρ _ _ hx,hρ _ _ hy,asBool]
  cases t <;> simp
 case h_4 e =>
  split at h <;> try exact h.elim
  rename_i i hi
  obtain⟨z,hz,h⟩:=al h
  refine qP.yieldsV (s':=execOp _ _) (K:=K) ?_ rfl
  obtain⟨v,w',hr,hk⟩:=Ng (P:=E.P) (t:=e) h
  exact⟨v,w',by simpa [Instr.alloc,i9 w hi hz,newVar] using hr,hk⟩
 case h_5 e x =>
  obtain⟨v,hv,h⟩:=al h
  refine qP.yieldsV (s':=execOp _ _) (K:=K) ?_ rfl
  obtain⟨v',w',hr,hk⟩:=Ng (P:=E.P) (t:=e) h
  exact⟨v',w',by simpa [Instr.box,hρ _ _ hv,newVar] using hr,hk⟩
 case h_6 t parts =>
  split at h <;> try exact h.elim
  rename_i fs i vs ht hi hvs
  split at h <;> try exact h.elim
  rename_i pl hpl
  split at h <;> try exact h.elim
  rename_i ps hps
  obtain⟨z,hz,h⟩:=al h
  refine qP.yieldsV (s':=execOp _ _) (K:=K) ?_ rfl
  have hv:=tN hρ _ _ hvs
  exact Oj ht hi hz hpl (by rw [Array.toList_map,hv];exact yX pl vs ps hps) h
 case h_7 t len parts =>
  split at h <;> try exact h.elim
  rename_i i vs hi hvs
  obtain⟨z,hz,h⟩:=al h
  split at h <;> try exact h.elim
  rename_i hs
  have hs:=Nat.eq_of_beq_eq_true hs
  obtain⟨e,ht,hi⟩:=qa hi
  refine qP.yieldsV (s':=execOp _ _) (K:=K) ?_ rfl
  exact E4 ht hi hz hs (by rw [Array.toList_map,tN hρ _ _ hvs,EF]) h
 case h_8 t x =>
  split at h <;> try exact h.elim
  rename_i d i hd hi
  obtain⟨v,hv,h⟩:=al h
  refine qP.yieldsV (s':=execOp _ _) (K:=K) ?_ rfl
  rw [hρ _ _ hv]
  split at h
  ·exact OL hd hi (by assumption) h
  ·rename_i hn;exact NP hd hn h
 case h_9 t x y=>simp [rj] at hp
 case h_10 x =>
  obtain⟨v,hv,h⟩:=al h
  unfold ai at h
  split at h <;> try exact h.elim
  ·exact⟨_,w,by simp [execOp,hρ _ _ hv],h⟩
  ·exact⟨_,w,by simp [execOp,hρ _ _ hv],h⟩
 case h_11 op t x y yt =>
  obtain⟨x',hx,h⟩:=al h;obtain⟨y',hy,h⟩:=al h
  have key:∀(hg:(eqGuard op t x y x' y').run E.P w=.ok () w),qP E.P (binOp op t x' y') K w→Ji E.P (execOp a.eval ⟨dst,.binOp op t x y yt,type,pos,after,guard⟩) K w:=by
   rintro hg ⟨v,w',hr,hk⟩
   refine⟨v,w',?_,hk⟩
   simp only [execOp,hρ _ _ hx,hρ _ _ hy,Sem.run_bind,hg,hr,Result.andThen_ok,Sem.run_pure]
  split at h
  ·exact key (kA _ _ _ _ _ _ _ (.inl (OA h))) (LJ h)
  ·exact key (kA _ _ _ _ _ _ _ (.inr (.inl (Lb h)))) (Jw (by assumption) h)
  ·exact key (kA _ _ _ _ _ _ _ (.inr (.inr (.inl (ND h))))) (NF (by assumption) h)
  ·exact key (kA _ _ _ _ _ _ _ (.inr (.inr (.inr (.inl (JL h)))))) (D4 (by assumption) h)
  ·exact key (kA _ _ _ _ _ _ _ (.inr (.inr (.inr (.inr (Pc h)))))) (OJ h)
  ·split at h <;> try exact h.elim
   rename_i ks hks
   have hok:=hE.eqs _ _ hks
   refine key ?_ (NR hok h)
   unfold jf at h
   split at h <;> try exact h.elim
   exact run_eqGuard_agg w op t x y _ _ hok.1
  ·exact h.elim
 case h_12 t x =>
  obtain⟨v,hv,h⟩:=al h
  cases v <;> try exact h.elim
  exact⟨_,w,by simp [execOp,hρ _ _ hv,Op.unary],h⟩
 case h_13 src dst' x =>
  split at h <;> try exact h.elim
  rename_i k1 k2 h1 h2
  obtain⟨v,hv,h⟩:=al h
  cases v <;> try exact h.elim
  refine⟨_,w,?_,h⟩
  simp only [execOp,hρ _ _ hv,convert,Sem.run_bind,bo w h1,bo w h2,Result.andThen_ok,Conv.intToInt,Sem.run_pure]
 case h_14 fn first cap =>
  split at h <;> try exact h.elim
  rename_i vs us h1 h2
  refine⟨_,w,?_,h⟩
  have e1:=n9 hρ _ _ h1
  have e2:=n9 hρ _ _ h2
  have e1':first.map a.eval=vs.toArray:=by apply Array.toList_inj.1;simpa using e1
  have e2':cap.map a.eval=us.toArray:=by apply Array.toList_inj.1;simpa using e2
  simp only [execOp,Instr.makeFunc,e1',e2',Sem.run_bind,Sem.run_pure,Result.andThen_ok]
 case h_15 t l c =>
  split at h <;> try exact h.elim
  rename_i i hi
  obtain⟨z,hz,h⟩:=al h
  split at h <;> try exact h.elim
  rename_i hs
  have hs:=Nat.eq_of_beq_eq_true hs
  obtain⟨l',hl,h⟩:=al h;obtain⟨c',hc,h⟩:=al h
  obtain⟨e,ht,hi⟩:=qa hi
  refine qP.yieldsV (s':=execOp _ _) (K:=K) ?_ rfl
  rw [hρ _ _ hl,hρ _ _ hc]
  exact G5 ht hi hz hs h
 case h_16 t x lo hi =>
  split at h <;> try exact h.elim
  ·rename_i i lo' hi' hi0 h1 h2
   obtain⟨v,hv,h⟩:=al h
   obtain⟨e,ht,hi0⟩:=qa hi0
   refine qP.yieldsV (s':=execOp _ _) (K:=K) ?_ rfl
   rw [hρ _ _ hv,AB hρ _ _ h1,AB hρ _ _ h2]
   exact OC ht hi0 h
  ·rename_i lo' hi' h0 h1 h2
   split at h <;> try exact h.elim
   rename_i ht
   obtain⟨v,hv,h⟩:=al h
   refine qP.yieldsV (s':=execOp _ _) (K:=K) ?_ rfl
   rw [hρ _ _ hv,AB hρ _ _ h1,AB hρ _ _ h2]
   exact Lf ht h
 case h_17 s x f =>
  split at h <;> try exact h.elim
  rename_i fs hs
  split at h <;> try exact h.elim
  rename_i fd hf
  split at h <;> try exact h.elim
  rename_i i hi
  split at h <;> try exact h.elim
  rename_i h0
  have h0:¬i.size=0:=fun e=>by rw [e] at h0;cases h0
  obtain⟨v,hv,h⟩:=al h
  refine qP.yieldsV (s':=execOp _ _) (K:=K) ?_ rfl
  rw [hρ _ _ hv]
  exact Gj hs (by rw [←hf,qN];simp) hi h0 h
 case h_18 s x f =>
  split at h <;> try exact h.elim
  rename_i fs hs
  split at h <;> try exact h.elim
  rename_i fd hf
  split at h <;> try exact h.elim
  rename_i i d hi hd
  obtain⟨v,hv,h⟩:=al h
  refine qP.yieldsV (s':=execOp _ _) (K:=K) ?_ rfl
  rw [hρ _ _ hv]
  exact Pa hs (by rw [←hf,qN];simp) hd hi h
 case h_19 t x ix =>
  split at h <;> try exact h.elim
  ·rename_i e ht
   split at h <;> try exact h.elim
   rename_i i hi
   obtain⟨v,hv,h⟩:=al h;obtain⟨u,hu,h⟩:=al h
   refine qP.yieldsV (s':=execOp _ _) (K:=K) ?_ rfl
   rw [hρ _ _ hv,hρ _ _ hu]
   exact Rf ht hi h
  ·rename_i n e ht
   split at h <;> try exact h.elim
   rename_i i hi
   obtain⟨v,hv,h⟩:=al h;obtain⟨u,hu,h⟩:=al h
   refine qP.yieldsV (s':=execOp _ _) (K:=K) ?_ rfl
   rw [hρ _ _ hv,hρ _ _ hu]
   exact LC ht hi h
 case h_20 t i =>
  obtain⟨v,hv,h⟩:=al h
  refine qP.yieldsV (s':=execOp _ _) (K:=K) ?_ rfl
  rw [hρ _ _ hv]
  exact KO h
 case h_21 args ts =>
  split at h <;> try exact h.elim
  rename_i x t hx ht
  split at h <;> try exact h.elim
  rename_i e hu
  obtain⟨v,hv,h⟩:=al h
  obtain⟨v',w',hr,hk⟩:=Rz (P:=E.P) (ty:=type) hu h
  refine⟨v',w',?_,hk⟩
  have e1:args=#[x]:=by apply Array.toList_inj.1;simpa using hx
  have e2:ts=#[t]:=by apply Array.toList_inj.1;simpa using ht
  subst e1;subst e2
  simp only [execOp,resolve,invoke,builtin,Sem.run_bind,Sem.run_pure,Result.andThen_ok,List.map_toArray,List.map_cons,List.map_nil,hρ _ _ hv,hr]
 case h_22 args ts =>
  split at h <;> try exact h.elim
  rename_i x l hx
  obtain⟨v',w',hr,hk⟩:=Q1 (P:=E.P) (ts:=ts) (ty:=type) h
  refine⟨v',w',?_,hk⟩
  have e1:args.map a.eval=(x::l).toArray:=by apply Array.toList_inj.1;simpa using n9 hρ _ _ hx
  simp only [execOp,resolve,invoke,builtin,Sem.run_bind,Sem.run_pure,Result.andThen_ok,e1,hr]
 case h_23 args ts =>
  split at h <;> try exact h.elim
  rename_i x l hx
  obtain⟨v',w',hr,hk⟩:=RD (P:=E.P) (ts:=ts) (ty:=type) h
  refine⟨v',w',?_,hk⟩
  have e1:args.map a.eval=(x::l).toArray:=by apply Array.toList_inj.1;simpa using n9 hρ _ _ hx
  simp only [execOp,resolve,invoke,builtin,Sem.run_bind,Sem.run_pure,Result.andThen_ok,e1,hr]
 case h_24 args ts =>
  split at h <;> try exact h.elim
  rename_i s x t t' hx ht
  split at h <;> try exact h.elim
  rename_i htt
  have htt:=Nat.eq_of_beq_eq_true htt
  subst htt
  split at h <;> try exact h.elim
  rename_i i hi
  obtain⟨z,hz,h⟩:=al h
  split at h <;> try exact h.elim
  rename_i hs
  have hs:=Nat.eq_of_beq_eq_true hs
  obtain⟨s',hs',h⟩:=al h;obtain⟨x',hx',h⟩:=al h
  obtain⟨e,hu,hi⟩:=qa hi
  obtain⟨v',w',hr,hk⟩:=K9 (P:=E.P) (ty:=type) hu hi hz hs h
  refine⟨v',w',?_,hk⟩
  have e1:args=#[s,x]:=by apply Array.toList_inj.1;simpa using hx
  have e2:ts=#[t,t]:=by apply Array.toList_inj.1;simpa using ht
  subst e1;subst e2
  simp only [execOp,resolve,invoke,builtin,Sem.run_bind,Sem.run_pure,Result.andThen_ok,List.map_toArray,List.map_cons,List.map_nil,hρ _ _ hs',hρ _ _ hx',hr]
 case h_25=>simp [rj] at hp
 case h_26=>simp [rj] at hp
 case h_27 t x =>
  split at h <;> try exact h.elim
  rename_i d hd hu
  obtain⟨v,hv,h⟩:=al h
  refine qP.yieldsV (s':=execOp _ _) (K:=K) ?_ rfl
  rw [hρ _ _ hv]
  exact OW hu hd h
 case h_28 x xt t =>
  split at h <;> try exact h.elim
  rename_i d i hd hu hi
  obtain⟨z,hz,h⟩:=al h
  obtain⟨v,hv,h⟩:=al h
  refine qP.yieldsV (s':=execOp _ _) (K:=K) ?_ rfl
  rw [hρ _ _ hv]
  exact Mj hu hd hi hz h
 case h_29=>simp [rj] at hp
 all_goals exact h.elim
theorem Kl {E:An}(hE:E.OK){o:Oper}{a:Act}{ρ:Operand→Option Value}(hρ:∀x v,ρ x=some v→a.eval x=v){K:KV}{w:World}{next:Act→World→Prop}{Q:Exit→Act→World→Prop}
  (h:dq E ρ o.op K w) (hK:∀v w',K v w'→next (a.put o.dst v) w'):o.wp E.P a w next Q:=by
 unfold Oper.wp
 by_cases hp:rj o.op=true
 ·obtain⟨v,w',hr,hk⟩:=Ct hE hρ hp h
  rw [hr];exact hK _ _ hk
 obtain⟨dst,op,type,pos,after,guard⟩:=o
 simp only at h hp
 unfold dq at h
 split at h
 case h_9 t x y =>
  split at h <;> try exact h.elim
  rename_i i hi
  obtain⟨x',hx,h⟩:=al h;obtain⟨y',hy,h⟩:=al h
  obtain⟨w',hr,hk⟩:=Ou hi h
  refine Ia.upon ⟨undef,w',.inr ⟨?_,rfl⟩,hk⟩ hK
  simp only [execOp,hρ _ _ hx,hρ _ _ hy,Sem.run_bind,hr,Result.andThen_ok,Sem.run_pure]
 case h_25 f args ts =>
  split at h <;> try exact h.elim
  rename_i vs hvs
  have e1:args.map a.eval=vs.toArray:=by apply Array.toList_inj.1;simpa using n9 hρ _ _ hvs
  have:=CP.upon (o:=⟨dst,.call ⟨.value (.func f),args,ts⟩,type,pos,after,guard⟩) (Q:=Q) h hK
  simpa [execOp,resolve,invoke,Deferred.ofValue,Act.eval,e1] using this
 case h_26 t args ts =>
  split at h <;> try exact h.elim
  rename_i vs hvs
  obtain⟨f,hf,h⟩:=al h
  unfold Tp at h
  split at h <;> try exact h.elim
  rename_i g first cap
  have e1:args.map a.eval=vs.toArray:=by apply Array.toList_inj.1;simpa using n9 hρ _ _ hvs
  have:=CP.upon (o:=⟨dst,.call ⟨.value (.tmp t),args,ts⟩,type,pos,after,guard⟩) (Q:=Q) h hK
  have e2:(first.toList++vs++cap.toList).toArray=first++vs.toArray++cap:=by apply Array.toList_inj.1;simp
  rw [e2] at this
  simpa [execOp,resolve,invoke,Deferred.ofValue,hρ _ _ hf,e1] using this
 case h_29 recv name args ts =>
  split at h <;> try exact h.elim
  rename_i vs hvs
  obtain⟨r,hr,h⟩:=al h
  unfold El at h
  split at h <;> try exact h.elim
  rename_i t v
  obtain⟨f,v',hm,h⟩:=h
  have e1:args.map a.eval=vs.toArray:=by apply Array.toList_inj.1;simpa using n9 hρ _ _ hvs
  have:=CP.upon (o:=⟨dst,.call ⟨.invoke recv name,args,ts⟩,type,pos,after,guard⟩) (Q:=Q) h hK
  have hp:(program).run E.P w=.ok E.P w:=rfl
  have e2:(execOp a.eval ⟨dst,.call ⟨.invoke recv name,args,ts⟩,type,pos,after,guard⟩).run E.P w=(callFunc f (v'::vs).toArray).run E.P w:=by
   have e3:(#[Value.iface t v]++vs.toArray).extract 1 (#[Value.iface t v]++vs.toArray).size=vs.toArray:=by apply Array.toList_inj.1;simp
   have e4:(#[Value.iface t v]++vs.toArray)[0]? = some (.iface t v):=by simp
   have e5:(v'::vs).toArray=#[v']++vs.toArray:=by apply Array.toList_inj.1;simp
   simp only [execOp,resolve,hρ _ _ hr,e1,Sem.run_bind,Sem.run_pure,Result.andThen_ok,invoke,e3,e4,callMethod,hp,hm,e5]
  rw [e2]
  exact this
 all_goals first | exact h.elim | exact absurd rfl hp
end Go.Proofs.YtoealglbimbbmaaGreatDoor.S
