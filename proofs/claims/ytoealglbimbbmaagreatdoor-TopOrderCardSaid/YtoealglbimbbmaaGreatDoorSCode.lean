import Derived.Test.YtoealglbimbbmaaGreatDoorSDraw
namespace Go.Proofs.YtoealglbimbbmaaGreatDoor.S
open Go
structure pM where
 live:Nat→List Nat:=fun _=>[]
 keep:Nat→List Nat:=fun _=>[]
 rest:Nat→List Nat:=fun _=>[]
 plan:Nat→Ee:=fun _=>.c []
 joinC:Nat→Option (List Nat×List Nat):=fun _=>none
 joinB:Nat→Option (List Nat×List Nat):=fun _=>none
abbrev iL:Code→Option Nat
 | .region id _ _=>some id
 | .seq a b=>match iL a with | some i=>some i | none=>iL b
 | .cond _ a b=>match iL a with | some i=>some i | none=>iL b
 | .block _ b=>iL b
 | .loop b=>iL b
 | _=>none
abbrev xX:List Oper→List Nat
 | []=>[]
 | o::l=>match o.dst with | some d=>d::xX l | none=>xX l
abbrev iZ:Code→List Nat
 | .region _ ops _=>xX ops.toList
 | .seq a b=>iZ a++iZ b
 | .cond _ a b=>iZ a++iZ b
 | .block _ b=>iZ b
 | .loop b=>iZ b
 | _=>[]
def known:Code→Bool
 | .skip | .region .. | .exit _ | .ret=>true
 | .seq a b | .cond _ a b=>known a && known b
 | .block _ b | .loop b=>known b
 | _=>false
abbrev FL (ks:List Nat):List Nat→Bool
 | []=>true
 | d::l=>!(ks.any (Nat.beq d)) && FL ks l
abbrev gQ (fr:Fr):List Nat→List Value→Fr
 | s::ss,v::vs=>(s,some v)::gQ fr ss vs
 | _,_=>fr
noncomputable abbrev nj (fr:Fr):List Nat→Option (List Value)
 | []=>some []
 | s::ss=>match kC fr s,nj fr ss with | some v,some vs=>some (v::vs) | _,_=>none
abbrev Id:List Nat→(List Value→Prop)→Prop
 | [],P=>P []
 | _::ss,P=>∀v,Id ss fun vs=>P (v::vs)
theorem BR:∀{ss:List Nat}{P:List Value→Prop},Id ss P→∀vs:List Value,vs.length=ss.length→P vs
 | [],P,h,vs,hv=>by cases vs with | nil=>exact h | cons=>simp at hv
 | _::ss,P,h,vs,hv=>by
  cases vs with
  | nil=>simp at hv
  | cons v vs=>exact BR (h v) vs (by simpa using hv)
abbrev A6 (o:Option (List Value))(k:List Value→Prop):Prop:=match o with | some vs=>k vs | none=>False
def My (v:Value)(A B:Prop):Prop:=match v with | .bool t=>(t=true→A)∧(t=false→B) | _=>False
noncomputable abbrev Rb (J:Option (List Nat×List Nat)) (ds:List Nat) (fr:Fr) (k:KF) (body:KF→World→Prop) (w:World):Prop :=
 match J with
 | none=>body k w
 | some (same,diff)=>match FL same ds with
  | false=>False
  | true=>A6 (nj fr same) fun ks=>match diff with
   | []=>ax (fun w=>k (gQ [] same ks) w) (fun j w=>body (fun _ w'=>j w') w) w
   | [d]=>cu (fun x w=>k ((d,some x)::gQ [] same ks) w) (fun j w=>body (fun fr' w'=>bz (kC fr' d) fun x=>j x w') w) w
   | [d,e]=>lQ (fun x y w=>k ((d,some x)::(e,some y)::gQ [] same ks) w) (fun j w=>body (fun fr' w'=>bz (kC fr' d) fun x=>bz (kC fr' e) fun y=>j x y w') w) w
   | [d,e,f]=>S3 (fun x y z w=>k ((d,some x)::(e,some y)::(f,some z)::gQ [] same ks) w)
     (fun j w=>body (fun fr' w'=>bz (kC fr' d) fun x=>bz (kC fr' e) fun y=>bz (kC fr' f) fun z=>j x y z w') w) w
   | _=>False
noncomputable abbrev rQ (E:An) (N:pM):Code→Fr→KF→(Nat→KF)→KF→World→Prop
 | .skip,fr,k,_,_,w=>k fr w
 | .region id ops false,fr,k,_,_,w=>A6 (nj fr (N.keep id)) fun ks=>D1 E ops.toList ops.toList (gQ [] (N.keep id) ks) k w
 | .region id ops true,fr,k,_,_,w=>A6 (nj fr (N.keep id)) fun ks=>E0 E ops (TR ops (N.plan id)) (gQ [] (N.keep id) ks) k w
 | .seq a b,fr,k,ex,kr,w=>rQ E N a fr (fun fr w=>rQ E N b fr k ex kr w) ex kr w
 | .cond c a b,fr,k,ex,kr,w=>bz (rd fr c) fun v=>Rb (match iL (.cond c a b) with | some i=>N.joinC i | none=>none) (iZ a++iZ b) fr k (fun k w=>My v (rQ E N a fr k ex kr w) (rQ E N b fr k ex kr w)) w
 | .block id b,fr,k,ex,kr,w=>Rb (N.joinB id) (iZ b) fr k (fun k w=>rQ E N b fr k (fun i=>match Nat.beq i id with | true=>k | false=>ex i) kr w) w
 | .loop b,fr,_,ex,kr,w=>match iL b with
  | some id=>A6 (nj fr (N.rest id)) fun ks=>match FL (N.rest id) (iZ b) with
   | false=>False
   | true=>A6 (nj fr (N.live id)) fun vs0=>∃(I:List Value→World→Prop) (μ:List Value→World→Nat),I vs0 w ∧
    Id (N.live id) fun vs=>∀w,I vs w→rQ E N b (gQ (gQ [] (N.rest id) ks) (N.live id) vs) (fun fr' w'=>A6 (nj fr' (N.live id)) fun vs'=>I vs' w'∧μ vs' w'<μ vs w) ex kr w
  | none=>False
 | .exit id,fr,_,ex,_,w=>ex id fr w
 | .ret,fr,_,_,kr,w=>kr fr w
 | _,_,_,_,_,_=>False
theorem xH {ks:List Nat}:∀{l:List Nat},FL ks l=true→∀d∈l,d ∉ ks
 | d::l,h,x,hx=>by
  simp only [FL,Bool.and_eq_true,Bool.not_eq_true'] at h
  rcases List.mem_cons.1 hx with rfl | hx
  ·intro hm
   have:=List.any_eq_true.2 ⟨x,hm,Nat.beq_refl x⟩
   rw [h.1] at this;cases this
  ·exact xH h.2 x hx
def Holds (a:Act)(ss:List Nat)(vs:List Value):Prop:=∀(n s:Nat)(v:Value),ss[n]? = some s→vs[n]? = some v→a.tmps[s]? = some v
theorem lm {n:Nat}{fr:Fr}{a:Act}(h:gL n fr a):∀{ss:List Nat}{vs:List Value},nj fr ss=some vs→vs.length=ss.length∧Holds a ss vs
 | [],vs,hg=>by simp [nj] at hg;subst hg;exact⟨rfl,fun n s v h=>by simp at h⟩
 | s::ss,vs,hg=>by
  simp only [nj] at hg
  split at hg
  ·rename_i v vs' hv hvs
   cases hg
   obtain⟨h1,h2⟩:=lm h hvs
   refine⟨by simp [h1],fun n s' u hs hu=>?_⟩
   cases n with
   | zero=>simp at hs hu;subst hs;subst hu;exact h.2 _ _ hv
   | succ n=>exact h2 n s' u (by simpa using hs) (by simpa using hu)
  ·cases hg
theorem oR {a:Act}{fr:Fr}(hfr:∀t v,kC fr t=some v→a.tmps[t]? = some v):∀(ss:List Nat)(vs:List Value),Holds a ss vs→∀t v,kC (gQ fr ss vs) t=some v→a.tmps[t]? = some v
 | [],_,_,t,v,h=>by simp [gQ] at h;exact hfr t v h
 | _::_,[],_,t,v,h=>by simp [gQ] at h;exact hfr t v h
 | s::ss,u::vs,hh,t,v,h=>by
  simp only [gQ] at h
  rw [qc] at h
  simp only at h
  split at h
  ·rename_i hc;subst hc
   cases h
   exact hh 0 _ _ (by simp) (by simp)
  ·exact oR hfr ss vs (fun n s' v' h1 h2=>hh (n+1) s' v' (by simpa using h1) (by simpa using h2)) t v h
theorem zw {a:Act}:∀t v,kC [] t=some v→a.tmps[t]? = some v:=fun t v h=>by cases h
theorem gL.cut {n:Nat}{fr:Fr}{a:Act}(h:gL n fr a){ss:List Nat}{vs:List Value}(hg:nj fr ss=some vs):gL n (gQ [] ss vs) a :=
 ⟨h.1,oR zw ss vs (lm h hg).2⟩
theorem jA {o:Option (List Value)}{k:List Value→Prop}(h:A6 o k):∃vs,o=some vs∧k vs:=by
 unfold A6 at h
 split at h
 ·exact⟨_,rfl,h⟩
 ·exact h.elim
def f9 (ds:List Nat)(a a':Act):Prop:=a'.tmps.size=a.tmps.size∧a'.defers=a.defers∧∀t,t ∉ ds→a'.tmps[t]? = a.tmps[t]?
theorem f9.refl (ds:List Nat)(a:Act):f9 ds a a:=⟨rfl,rfl,fun _ _=>rfl⟩
theorem f9.trans {ds:List Nat}{a b c:Act}(h:f9 ds a b)(h':f9 ds b c):f9 ds a c:=⟨h'.1.trans h.1,h'.2.1.trans h.2.1,fun t ht=>(h'.2.2 t ht).trans (h.2.2 t ht)⟩
theorem f9.mono {ds ds':List Nat}{a b:Act}(h:f9 ds a b)(hs:∀t∈ds,t∈ds'):f9 ds' a b:=⟨h.1,h.2.1,fun t ht=>h.2.2 t (fun hm=>ht (hs t hm))⟩
theorem f9.put {ds:List Nat}(a:Act)(dst:Option Tmp)(v:Value)(hd:∀d,dst=some d→d∈ds):f9 ds a (a.put dst v):=by
 cases dst with
 | none=>exact f9.refl ds a
 | some d =>
  refine⟨by simp [Act.put],rfl,fun t ht=>?_⟩
  have:d≠t:=fun e=>ht (e ▸ hd d rfl)
  simp [Act.put,this]
theorem iJ {l:List Oper}{o:Oper}(ho:o∈l){d:Nat}(hd:o.dst=some d):d∈xX l:=by
 induction l with
 | nil=>cases ho
 | cons x l ih =>
  rcases List.mem_cons.1 ho with h | h
  ·subst h;simp [xX,hd]
  ·have:=ih h
   unfold xX
   split
   ·exact List.mem_cons_of_mem _ this
   ·exact this
theorem mI (m j:Nat):(Array.replicate m false).getD j false=false:=by
 simp only [Array.getD_eq_getD_getElem?,Array.getElem?_replicate]
 split <;> rfl
def U1 (Q:Exit→Act→World→Prop):Exit→Act→World→Prop
 | .panic _,_,_=>False
 | e,a,w=>Q e a w
theorem xT {J:Option (List Nat×List Nat)}{ds:List Nat}{fr:Fr}{k:KF}{body:KF→World→Prop}{w:World}{n:Nat}{a:Act}(h:Rb J ds fr k body w)(hfr:gL n fr a) :
  ∃k':KF,body k' w∧∀fr' a' w',gL n fr' a'→f9 ds a a'→k' fr' w'→∃fr'',gL n fr'' a'∧k fr'' w':=by
 unfold Rb at h
 split at h
 ·exact⟨k,h,fun fr' a' w' h1 _ h3=>⟨fr',h1,h3⟩⟩
 ·rename_i same diff
  split at h <;> try exact h.elim
  rename_i hap
  obtain⟨ks,hks,h⟩:=jA h
  have hst:∀a',a'.tmps.size=n→f9 ds a a'→gL n (gQ [] same ks) a':=fun a' hsz hs=>⟨hsz,oR zw same ks (fun m s v h1 h2=>by
   have hnot:s ∉ ds:=fun hm=>xH hap s hm (List.mem_of_getElem? h1)
   rw [hs.2.2 s hnot]
   exact(lm hfr hks).2 m s v h1 h2)⟩
  have hcons:∀{f:Fr} {a':Act} {d:Nat} {x:Value},gL n f a'→a'.tmps[d]? = some x→gL n ((d,some x)::f) a':=fun {f a' d x} hf hx=>⟨hf.1,fun t v ht=>by
   rw [qc] at ht
   simp only at ht
   split at ht
   ·rename_i e;subst e;cases ht;exact hx
   ·exact hf.2 t v ht⟩
  split at h
  ·exact⟨_,h,fun fr' a' w' h1 h2 h3=>⟨_,hst a' h1.1 h2,h3⟩⟩
  ·refine⟨_,h,fun fr' a' w' h1 h2 h3=>?_⟩
   obtain⟨x,hx,h3⟩:=al h3
   exact⟨_,hcons (hst a' h1.1 h2) (h1.2 _ _ hx),h3⟩
  ·refine⟨_,h,fun fr' a' w' h1 h2 h3=>?_⟩
   obtain⟨x,hx,h3⟩:=al h3
   obtain⟨y,hy,h3⟩:=al h3
   exact⟨_,hcons (hcons (hst a' h1.1 h2) (h1.2 _ _ hy)) (h1.2 _ _ hx),h3⟩
  ·refine⟨_,h,fun fr' a' w' h1 h2 h3=>?_⟩
   obtain⟨x,hx,h3⟩:=al h3
   obtain⟨y,hy,h3⟩:=al h3
   obtain⟨z,hz,h3⟩:=al h3
   exact⟨_,hcons (hcons (hcons (hst a' h1.1 h2) (h1.2 _ _ hz)) (h1.2 _ _ hy)) (h1.2 _ _ hx),h3⟩
  ·exact h.elim
theorem Km {E:An}(hE:E.OK)(N:pM){n:Nat}:∀(c:Code)(_:∀d∈iZ c,d<n)(fr:Fr)(a:Act)(w:World)(k:KF)(ex:Nat→KF)(kr:KF)(Q:Exit→Act→World→Prop),gL n fr a→rQ E N c fr k ex kr w →
  (∀fr' a' w',gL n fr' a'→f9 (iZ c) a a'→k fr' w'→Q .normal a' w') →
  (∀id fr' a' w',gL n fr' a'→f9 (iZ c) a a'→ex id fr' w'→Q (.exit id) a' w') →
  (∀fr' a' w',gL n fr' a'→f9 (iZ c) a a'→kr fr' w'→Q .ret a' w')→c.wp E.P Q a w:=by
 intro c
 induction c with
 | skip=>intro hlt fr a w k ex kr Q hfr h hk hex hkr;exact wp_skip (hk fr a w hfr (f9.refl _ _) h)
 | ret=>intro hlt fr a w k ex kr Q hfr h hk hex hkr;exact wp_ret (hkr fr a w hfr (f9.refl _ _) h)
 | exit id=>intro hlt fr a w k ex kr Q hfr h hk hex hkr;exact wp_exit (hex id fr a w hfr (f9.refl _ _) h)
 | region id ops draw =>
  intro hlt fr a w k ex kr Q hfr h hk hex hkr
  cases draw with
  | false =>
   obtain⟨ks,hks,h⟩:=jA h
   have hfr:=hfr.cut hks
   refine wp_region_list (sf hE (R:=f9 (iZ (.region id ops false))) (f9.refl _) (fun _ _ _=>f9.trans) _ (fun o ho a v=>f9.put a o.dst v (fun d hd=>iJ ho hd)) (fun o ho d hd=>hlt d (iJ ho hd)) _ a w k hfr h hk)
  | true =>
   obtain⟨ks,hks,h⟩:=jA h
   have hfr:=hfr.cut hks
   simp only [E0] at h
   split at h <;> try exact h.elim
   rename_i hchk
   obtain⟨hs,hms,hok,hd⟩:=Dj hchk
   have hwp:(Code.region id ops true).wp E.P (U1 Q) a w:=by
    refine wp_region_any hE.mixed (Ai (ms:=(TR ops (N.plan id)).ms) _ [] _ _ _ ?_)
    refine(Fw hE (fun i o ho d hd=>hlt d (iJ (List.mem_of_getElem? (l:=ops.toList) (i:=i) (by simpa using ho)) hd)) hms hs (Q:=U1 Q) (fun c a w h=>h) (R:=f9 (iZ (.region id ops true))) (f9.refl _) (fun _ _ _=>f9.trans)
     (fun i o ho a v=>f9.put a o.dst v (fun d hd=>iJ (List.mem_of_getElem? (l:=ops.toList) (i:=i) (by simpa using ho)) hd)) (TR ops (N.plan id)).plan.plan true _ [] _ a w.drew k _ hok ?_ hfr (by simp) h ?_).1 rfl hd
    ·intro k' o hk' hl
     rw [mI] at hl;cases hl
    ·intro fr' a' w' h1 h2 h3;exact hk fr' a' w' h1 h2 h3
   exact wp_mono hwp fun e a w hq=>by cases e <;> first | exact hq | exact hq.elim
 | seq x y ihx ihy =>
  intro hlt fr a w k ex kr Q hfr h hk hex hkr
  refine wp_seq (ihx (fun d hd=>hlt d (List.mem_append_left _ hd)) fr a w _ ex kr _ hfr h (fun fr' a' w' h1 h2 h3=>?_) (fun id fr' a' w' h1 h2 h3=>?_) (fun fr' a' w' h1 h2 h3=>?_))
  ·have hs:f9 (iZ (.seq x y)) a a':=h2.mono fun t ht=>List.mem_append_left _ ht
   refine ihy (fun d hd=>hlt d (List.mem_append_right _ hd)) fr' a' w' k ex kr Q h1 h3 (fun fr'' a'' w'' g1 g2 g3=>?_) (fun id fr'' a'' w'' g1 g2 g3=>?_) (fun fr'' a'' w'' g1 g2 g3=>?_)
   ·exact hk fr'' a'' w'' g1 (hs.trans (g2.mono fun t ht=>List.mem_append_right _ ht)) g3
   ·exact hex id fr'' a'' w'' g1 (hs.trans (g2.mono fun t ht=>List.mem_append_right _ ht)) g3
   ·exact hkr fr'' a'' w'' g1 (hs.trans (g2.mono fun t ht=>List.mem_append_right _ ht)) g3
  ·exact hex id fr' a' w' h1 (h2.mono fun t ht=>List.mem_append_left _ ht) h3
  ·exact hkr fr' a' w' h1 (h2.mono fun t ht=>List.mem_append_left _ ht) h3
 | cond cnd x y ihx ihy =>
  intro hlt fr a w k ex kr Q hfr h hk hex hkr
  obtain⟨v,hv,h⟩:=al h
  obtain⟨k',h,hk'⟩:=xT h hfr
  have hk2:∀fr' a' w',gL n fr' a'→f9 (iZ x++iZ y) a a'→k' fr' w'→Q .normal a' w':=fun fr' a' w' h1 h2 h3=>by
   obtain⟨fr'',g1,g2⟩:=hk' fr' a' w' h1 h2 h3
   exact hk fr'' a' w' g1 h2 g2
  obtain⟨t,rfl⟩:∃t,v=.bool t:=by cases v <;> first | exact⟨_,rfl⟩ | exact h.elim
  refine wp_cond_split (hfr.rd _ _ hv) (fun ht=>?_) (fun ht=>?_)
  ·exact ihx (fun d hd=>hlt d (List.mem_append_left _ hd)) fr a w k' ex kr Q hfr (h.1 ht) (fun fr' a' w' h1 h2 h3=>hk2 fr' a' w' h1 (h2.mono fun t ht=>List.mem_append_left _ ht) h3) (fun id fr' a' w' h1 h2 h3=>hex id fr' a' w' h1 (h2.mono fun t ht=>List.mem_append_left _ ht) h3)
    (fun fr' a' w' h1 h2 h3=>hkr fr' a' w' h1 (h2.mono fun t ht=>List.mem_append_left _ ht) h3)
  ·exact ihy (fun d hd=>hlt d (List.mem_append_right _ hd)) fr a w k' ex kr Q hfr (h.2 ht) (fun fr' a' w' h1 h2 h3=>hk2 fr' a' w' h1 (h2.mono fun t ht=>List.mem_append_right _ ht) h3) (fun id fr' a' w' h1 h2 h3=>hex id fr' a' w' h1 (h2.mono fun t ht=>List.mem_append_right _ ht) h3)
    (fun fr' a' w' h1 h2 h3=>hkr fr' a' w' h1 (h2.mono fun t ht=>List.mem_append_right _ ht) h3)
 | block id b ih =>
  intro hlt fr a w k ex kr Q hfr h hk hex hkr
  obtain⟨k',h,hk'⟩:=xT (J:=N.joinB id) (ds:=iZ b) h hfr
  have hk2:∀fr' a' w',gL n fr' a'→f9 (iZ b) a a'→k' fr' w'→Q .normal a' w':=fun fr' a' w' h1 h2 h3=>by
   obtain⟨fr'',g1,g2⟩:=hk' fr' a' w' h1 h2 h3
   exact hk fr'' a' w' g1 h2 g2
  refine wp_block (ih hlt fr a w k' _ kr _ hfr h (fun fr' a' w' h1 h2 h3=>hk2 fr' a' w' h1 h2 h3) (fun id' fr' a' w' h1 h2 h3=>?_) (fun fr' a' w' h1 h2 h3=>hkr fr' a' w' h1 h2 h3))
  simp only [Exit.inBlock]
  by_cases hid:id'=id
  ·subst hid;rw [if_pos rfl];simp only [Nat.beq_refl] at h3;exact hk2 fr' a' w' h1 h2 h3
  ·have hb:Nat.beq id' id=false:=by rw [Bool.eq_false_iff];intro hb;exact hid (Nat.eq_of_beq_eq_true hb)
   rw [if_neg hid];simp only [hb] at h3;exact hex id' fr' a' w' h1 h2 h3
 | loop b ih =>
  intro hlt fr a w k ex kr Q hfr h hk hex hkr
  simp only [rQ] at h
  split at h <;> try exact h.elim
  rename_i id hid
  obtain⟨ks,hks,h⟩:=jA h
  split at h <;> try exact h.elim
  rename_i hap
  obtain⟨vs0,hvs0,h⟩:=jA h
  obtain⟨I,μ,hI0,hround⟩:=h
  obtain⟨hl0,hh0⟩:=lm hfr hvs0
  have hround':=fun vs hvs=>BR hround vs hvs
  let J:Act→World→Prop:=fun a' w'=>f9 (iZ b) a a'∧∃vs,vs.length=(N.live id).length∧Holds a' (N.live id) vs∧I vs w'
  refine wp_loop J (fun a' w'=>μ ((N.live id).map fun s=>(a'.tmps[s]?).getD undef) w') ⟨f9.refl _ _,vs0,hl0,hh0,hI0⟩ ?_
  rintro a1 w1 ⟨hs1,vs,hvl,hvh,hI⟩
  have hvals:∀(a':Act) (ss:List Nat) (us:List Value),us.length=ss.length→Holds a' ss us→(ss.map fun s=>(a'.tmps[s]?).getD undef)=us:=by
   intro a' ss
   induction ss with
   | nil=>intro us hl _;cases us with | nil=>rfl | cons=>simp at hl
   | cons s ss ihs =>
    intro us hl hh
    cases us with
    | nil=>simp at hl
    | cons u us =>
     have h0:=hh 0 s u (by simp) (by simp)
     simp only [List.map_cons,h0,Option.getD_some]
     rw [ihs us (by simpa using hl) (fun n s' v' g1 g2=>hh (n+1) s' v' (by simpa using g1) (by simpa using g2))]
  have hfr1:gL n (gQ (gQ [] (N.rest id) ks) (N.live id) vs) a1:=by
   refine⟨hs1.1.trans hfr.1,oR (oR zw _ _ ?_) _ _ hvh⟩
   intro m s v hs hv
   have hnot:s ∉ iZ b:=fun hm=>xH hap s hm (List.mem_of_getElem? hs)
   rw [hs1.2.2 s hnot]
   exact(lm hfr hks).2 m s v hs hv
  refine ih hlt _ a1 w1 _ ex kr _ hfr1 (hround' vs hvl w1 hI) (fun fr' a' w' h1 h2 h3=>?_) (fun i fr' a' w' h1 h2 h3=>hex i fr' a' w' h1 (hs1.trans h2) h3) (fun fr' a' w' h1 h2 h3=>hkr fr' a' w' h1 (hs1.trans h2) h3)
  obtain⟨vs',hvs',h3⟩:=jA h3
  obtain⟨hl',hh'⟩:=lm h1 hvs'
  show J a' w'∧_
  refine⟨⟨hs1.trans h2,vs',hl',hh',h3.1⟩,?_⟩
  rw [hvals a' _ vs' hl' hh',hvals a1 _ vs hvl hvh]
  exact h3.2
 | _=>intros;rename_i h _ _ _;exact h.elim
noncomputable abbrev GH (E:An):List ResultVar→Fr→(List Value→World→Prop)→World→Prop
 | [],_,k,w=>k [] w
 | .tmp t::l,fr,k,w=>bz (kC fr t) fun v=>GH E l fr (fun vs w=>k (v::vs) w) w
 | .cell a t::l,fr,k,w=>match E.P.underlying t,E.P.info? t with
  | some d,some i=>bz (kC fr a) fun p=>match md d with
   | true=>aj i.size p (fun v w=>GH E l fr (fun vs w=>k (v::vs) w) w) w
   | false=>ab p (fun v w=>GH E l fr (fun vs w=>k (v::vs) w) w) w
  | _,_=>False
abbrev PN:List Value→Value
 | [v]=>v
 | vs=>.tuple vs.toArray
noncomputable abbrev Gx (E:An) (rs:List ResultVar) (fr:Fr) (K:KV) (w:World):Prop :=
 match rs with
 | [.tmp t]=>bz (kC fr t) fun v=>K v w
 | [.tmp t,.tmp u]=>bz (kC fr t) fun v=>bz (kC fr u) fun v'=>K (.tuple #[v,v']) w
 | [.tmp t,.tmp u,.tmp x]=>bz (kC fr t) fun v=>bz (kC fr u) fun v'=>bz (kC fr x) fun v''=>K (.tuple #[v,v',v'']) w
 | []=>K (.tuple #[]) w
 | rs=>GH E rs fr (fun vs w=>K (PN vs) w) w
abbrev zx:Nat→List Value→Fr
 | _,[]=>[]
 | i,v::l=>(i,some v)::zx (i+1) l
abbrev vH (n:Nat):List Nat→Bool
 | []=>true
 | d::l=>Nat.blt d n && vH n l
noncomputable abbrev Ke (E:An) (N:pM) (fn:Func) (args:List Value) (K:KV) (w:World):Prop :=
 match fn.body with
 | some c=>match vH fn.ntmps (iZ c),Nat.ble args.length fn.ntmps with | true,true=>rQ E N c (zx 0 args) (Gx E fn.results.toList · K) (fun _ _ _=>False) (Gx E fn.results.toList · K) w | _,_=>False
 | none=>False
theorem qL {n:Nat}:∀{l:List Nat},vH n l=true→∀d∈l,d<n
 | d::l,h,x,hx=>by
  simp only [vH,Bool.and_eq_true] at h
  rcases List.mem_cons.1 hx with rfl | hx
  ·exact Nat.le_of_ble_eq_true h.1
  ·exact qL h.2 x hx
theorem xr:∀(l:List Value)(i t:Nat)(v:Value),kC (zx i l) t=some v→i≤t∧l[t-i]? = some v
 | [],i,t,v,h=>by cases h
 | u::l,i,t,v,h=>by
  simp only [zx] at h
  rw [qc] at h
  simp only at h
  split at h
  ·rename_i hc;subst hc;cases h;simp
  ·obtain⟨h1,h2⟩:=xr l (i+1) t v h
   refine⟨by omega,?_⟩
   rw [show t-i=(t-(i+1))+1 by omega];simpa using h2
theorem D9 {P:Program}{w:World}(a:Addr):(asAddr (.pointer (some a))).run P w=.ok a w:=by simp [asAddr]
theorem I6 {P:Program}{w:World}{t:TypeId}{d:TypeDesc}{i:TypeInfo}{q o:Nat}{cs:List Value}(hd:P.underlying t=some d)(hi:P.info? t=some i)(hg:md d=true)(hm:mem w q=some cs)(hn:o+i.size≤cs.length) :
  (loadVar t ⟨q,o,none⟩).run P w=.ok (.agg ((cs.drop o).take i.size).toArray) w:=by
 simp only [loadVar,Sem.run_bind,nJ w hd,Result.andThen_ok,hg,if_true,ff w hi,rX hm hn,Sem.run_pure]
theorem IX {P:Program}{w:World}{t:TypeId}{d:TypeDesc}{q o:Nat}{cs:List Value}{v:Value}(hd:P.underlying t=some d)(hg:md d=false)(hm:mem w q=some cs)(hv:cs[o]? = some v) :
  (loadVar t ⟨q,o,none⟩).run P w=.ok v w:=by
 simp only [loadVar,Sem.run_bind,nJ w hd,Result.andThen_ok,hg,Bool.false_eq_true,if_false,HW hm hv]
def Py (tmps:Array Value):ResultVar→Sem Value
 | .tmp t=>pure (tmps.getD t undef)
 | .cell b t=>do loadVar t (←asAddr (tmps.getD b undef))
theorem Ij (fn:Func)(tmps:Array Value):results fn tmps=(do let vs ←fn.results.mapM (Py tmps);pure (if h:vs.size=1 then vs[0] else .tuple vs)):=by
 unfold results
 congr 1
theorem AM {E:An}{fr:Fr}{a:Act}{w:World}(get:∀t v,kC fr t=some v→a.tmps.getD t undef=v):∀(l:List ResultVar)(k:List Value→World→Prop),GH E l fr k w →
  ∃vs,(l.mapM (Py a.tmps)).run E.P w=.ok vs w∧k vs w∧vs.length=l.length
 | [],k,h=>⟨[],by simp,h,rfl⟩
 | .tmp t::l,k,h=>by
  simp only [GH] at h
  obtain⟨v,hv,h⟩:=al h
  obtain⟨vs,h1,h2,h3⟩:=AM get l _ h
  exact⟨v::vs,by simp only [List.mapM_cons,Py,Sem.run_bind,Sem.run_pure,Result.andThen_ok,h1,get t v hv],h2,by simp [h3]⟩
 | .cell b t::l,k,h=>by
  simp only [GH] at h
  split at h <;> try exact h.elim
  rename_i d i hd hi
  obtain⟨p,hp,h⟩:=al h
  split at h
  ·rename_i hg
   unfold aj at h
   split at h <;> try exact h.elim
   rename_i q o
   split at h <;> try exact h.elim
   rename_i cs hm
   obtain⟨vs,h1,h2,h3⟩:=AM get l _ h.2
   refine⟨_::vs,?_,h2,by simp [h3]⟩
   simp only [List.mapM_cons,Py,Sem.run_bind,get b _ hp,D9,Result.andThen_ok,I6 hd hi hg hm h.1,Sem.run_pure,h1]
  ·rename_i hg
   unfold ab at h
   split at h <;> try exact h.elim
   rename_i q o
   split at h <;> try exact h.elim
   rename_i cs hm
   unfold dn at h
   split at h <;> try exact h.elim
   rename_i v hv
   obtain⟨vs,h1,h2,h3⟩:=AM get l _ h
   refine⟨_::vs,?_,h2,by simp [h3]⟩
   simp only [List.mapM_cons,Py,Sem.run_bind,get b _ hp,D9,Result.andThen_ok,IX hd hg hm hv,Sem.run_pure,h1]
theorem sI {E:An}{fn:Func}{fr:Fr}{a:Act}{K:KV}{w:World}{n:Nat}(hfr:gL n fr a)(hd:a.defers=[])(h:Gx E fn.results.toList fr K w) :
  a.defers=[]∧∃v,(results fn a.tmps).run E.P w=.ok v w∧K v w:=by
 refine⟨hd,?_⟩
 have get:∀t v,kC fr t=some v→a.tmps.getD t undef=v:=fun t v hv=>by simp [Array.getD_eq_getD_getElem?,hfr.2 t v hv]
 unfold Gx at h
 split at h
 ·rename_i t hr
  have hr':fn.results=#[.tmp t]:=by apply Array.toList_inj.1;simpa using hr
  obtain⟨v,hv,h⟩:=al h
  exact⟨v,by rw [results_tmp hr',get t v hv],h⟩
 ·rename_i t u hr
  have hr':fn.results=#[.tmp t,.tmp u]:=by apply Array.toList_inj.1;simpa using hr
  obtain⟨v,hv,h⟩:=al h;obtain⟨v',hv',h⟩:=al h
  exact⟨_,by rw [results_tmp2 hr',get t v hv,get u v' hv'],h⟩
 ·rename_i t u x hr
  have hr':fn.results=#[.tmp t,.tmp u,.tmp x]:=by apply Array.toList_inj.1;simpa using hr
  obtain⟨v,hv,h⟩:=al h;obtain⟨v',hv',h⟩:=al h;obtain⟨v'',hv'',h⟩:=al h
  refine⟨_,?_,h⟩
  simp [results,hr',hfr.2 t v hv,hfr.2 u v' hv',hfr.2 x v'' hv'']
 ·rename_i hr
  have hr':fn.results=#[]:=by apply Array.toList_inj.1;simpa using hr
  exact⟨_,by rw [results_none hr'],h⟩
 ·obtain⟨vs,h1,h2,h3⟩:=AM (a:=a) get _ _ h
  refine⟨PN vs,?_,h2⟩
  rw [Ij]
  simp only [Array.mapM_eq_mapM_toList,map_eq_pure_bind,Sem.run_bind]
  rw [h1]
  simp only [Result.andThen_ok,Sem.run_pure]
  congr 1
  match vs,h3 with
  | [],_=>rfl
  | [v],_=>rfl
  | v::u::l,_=>simp [PN]
theorem wM {E:An}(hE:E.OK)(N:pM){f:FuncId}{fn:Func}{args:List Value}{K:KV}{w:World}(hf:E.P.funcs[f]? = some fn)(hn:(fn.name == "runtime.NumGoroutine")=false)
  (h:Ke E N fn args K w):CP E.P f args K w:=by
 unfold Ke at h
 split at h <;> try exact h.elim
 rename_i c hc
 split at h <;> try exact h.elim
 rename_i hall hlen
 have hlen:=Nat.le_of_ble_eq_true hlen
 refine⟨⟨fn,hf,by rw [hc];rfl,hn⟩,calls_of_wp hf hc ?_⟩
 have hfr:gL fn.ntmps (zx 0 args) { tmps:=args.toArray++Array.replicate (fn.ntmps-args.toArray.size) undef,defers:=[] }:=by
  refine⟨by simp;omega,fun t v hv=>?_⟩
  obtain⟨_,h2⟩:=xr args 0 t v hv
  rw [Nat.sub_zero] at h2
  have:t<args.length:=by
   rcases Nat.lt_or_ge t args.length with h' | h'
   ·exact h'
   ·rw [List.getElem?_eq_none h'] at h2;cases h2
  rw [Array.getElem?_append]
  simp [this] at h2 ⊢
  simpa using h2
 refine Km hE N c (qL hall) _ _ w _ _ _ _ hfr h (fun fr' a' w' h1 h2 h3=>?_) (fun _ _ _ _ _ _ h3=>h3.elim) (fun fr' a' w' h1 h2 h3=>?_)
 ·exact sI (E:=E) h1 h2.2.1 h3
 ·exact sI (E:=E) h1 h2.2.1 h3
end Go.Proofs.YtoealglbimbbmaaGreatDoor.S
