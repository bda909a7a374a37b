import Derived.Test.YtoealglbimbbmaaGreatDoorSCode
import Derived.RowKit3
import Derived.Laws.StructEq
namespace Go.Proofs.YtoealglbimbbmaaGreatDoor.S
open Go
structure jc (fp:List Nat)(w w':World):Prop where
 os:w'.os=w.os
 tape:w'.tape=w.tape
 output:w'.output=w.output
 size:w.heap.size≤w'.heap.size
 block:∀k,k<w.heap.size→k ∉ fp→w'.heap[k]? = w.heap[k]?
theorem jc.refl (fp:List Nat)(w:World):jc fp w w:=⟨rfl,rfl,rfl,Nat.le_refl _,fun _ _ _=>rfl⟩
theorem jc.trans {fp gp hp:List Nat}{a b c:World}(h:jc fp a b)(h':jc gp b c)(hf:∀k∈fp,k∈hp∨a.heap.size≤k)(hg:∀k∈gp,k∈hp∨a.heap.size≤k):jc hp a c :=
 ⟨h'.os.trans h.os,h'.tape.trans h.tape,h'.output.trans h.output,Nat.le_trans h.size h'.size,fun k hk hn=>by
  have h1:k ∉ fp:=fun hm=>(hf k hm).elim hn (fun hh=>by omega)
  have h2:k ∉ gp:=fun hm=>(hg k hm).elim hn (fun hh=>by omega)
  exact(h'.block k (Nat.lt_of_lt_of_le hk h.size) h2).trans (h.block k hk h1)⟩
theorem jc.mono {fp gp:List Nat}{a b:World}(h:jc fp a b)(hf:∀k∈fp,k∈gp):jc gp a b:=⟨h.os,h.tape,h.output,h.size,fun k hk hn=>h.block k hk (fun hm=>hn (hf k hm))⟩
theorem jc.alloc (w:World)(c:Array Value)(T:TypeId)(fp:List Nat):jc fp w (w.alloc (.cells c T)):=⟨rfl,rfl,rfl,by simp,fun k hk _=>by
 show (w.heap.push _)[k]? = _
 rw [Array.getElem?_push,if_neg (by omega)]⟩
theorem jc.drew (w:World)(fp:List Nat):jc fp w w.drew:=⟨rfl,rfl,rfl,Nat.le_refl _,fun _ _ _=>rfl⟩
theorem jc.put (w:World)(b:Nat)(cs:List Value):jc [b] w (put w b cs):=⟨rfl,rfl,rfl,by simp,fun k hk hn=>by
 simp only [S.put,Array.getElem?_modify]
 rw [if_neg (fun e=>hn (by simp [e]))]⟩
theorem jc.mem {fp:List Nat}{w w':World}(h:jc fp w w'){k:Nat}(hk:k<w.heap.size)(hn:k ∉ fp):mem w' k=mem w k:=by
 unfold S.mem;rw [h.block k hk hn]
theorem jc.mem_some {fp:List Nat}{w w':World}(h:jc fp w w'){k:Nat}{cs:List Value}(hm:S.mem w k=some cs)(hn:k ∉ fp):S.mem w' k=some cs:=by
 rw [h.mem (tY hm) hn];exact hm
theorem SY {w:World}{b:Nat}(h:opn w b=true):b<w.heap.size:=by
 unfold opn at h
 rcases Nat.lt_or_ge b w.heap.size with hb | hb
 ·exact hb
 ·simp [Array.getElem?_eq_none hb] at h
theorem jc.opn {fp:List Nat}{w w':World}(h:jc fp w w'){k:Nat}(ho:S.opn w k=true)(hn:k ∉ fp):S.opn w' k=true:=by
 rw [←ho];unfold S.opn;rw [h.block k (SY ho) hn]
theorem jc.below {fp:List Nat}{w w':World}(h:jc fp w w'){B:Nat}(hB:B≤w.heap.size)(hf:∀k∈fp,B≤k):RowKit.Below B w w' :=
 ⟨h.os,h.tape,h.output,h.size,fun k hk=>h.block k (Nat.lt_of_lt_of_le hk hB) (fun hm=>by have:=hf k hm;omega)⟩
theorem jc.kept {w w':World}(h:jc [] w w'):w.keptBut w' (fun _=>False) :=
 ⟨h.os,h.output,fun i hi=>by
  rw [h.block i hi (by simp)]
  cases w.heap[i]? with
  | none=>simp
  | some o=>cases o <;> simp⟩
theorem jc.frozen {w w':World}(h:jc [] w w'){a:Addr}(ha:a.block<w.heap.size):w'.frozen? a=w.frozen? a:=by
 unfold World.frozen?
 rw [h.block _ ha (by simp)]
end Go.Proofs.YtoealglbimbbmaaGreatDoor.S
namespace Go.Proofs.YtoealglbimbbmaaGreatDoor.S
open Go
set_option linter.unusedVariables false
def BN (P:Program)(g:TypeId→Option (List CK)):List Field→Nat→Option (List CK)
 | [],_=>some []
 | f::fs,o=>match g f.type,P.info? f.type with
  | some ks,some i=>if f.name ≠ "_" ∧ f.offset=o∧ks.length=i.size∧0<i.size then (match BN P g fs (o+ks.length) with | some l=>some (ks++l) | none=>none) else none
  | _,_=>none
def kK (P:Program):Nat→TypeId→Option (List CK)
 | 0,_=>none
 | n+1,t=>match P.underlying t with
  | some .bool=>some [.b]
  | some (.int k)=>some [.i k]
  | some (.struct fs)=>if P.stoodInHeld t=false then BN P (kK P n) fs.toList 0 else none
  | _=>none
def uy (P:Program)(t:TypeId)(xs:List Value):Value:=match P.underlying t with
 | some (.struct _)=>.agg xs.toArray
 | _=>xs.headD undef
theorem qQ:∀(k1 k2:List CK)(xs:List Value),gO (k1++k2) xs→gO k1 (xs.take k1.length)∧gO k2 (xs.drop k1.length)
 | [],k2,xs,h=>⟨by simp [gO],by simpa using h⟩
 | .b::k1,k2,xs,h=>by
  cases xs with
  | nil=>simp [gO] at h
  | cons x xs=>cases x <;> simp [gO] at h ⊢;exact qQ k1 k2 xs h
 | .i k::k1,k2,xs,h=>by
  cases xs with
  | nil=>simp [gO] at h
  | cons x xs=>cases x <;> simp [gO] at h ⊢;exact⟨⟨h.1,(qQ k1 k2 xs h.2).1⟩,(qQ k1 k2 xs h.2).2⟩
theorem lh:∀(k:List CK)(xs:List Value),gO k xs→xs.length=k.length
 | [],[],_=>rfl
 | [],_::_,h=>h.elim
 | .b::k,xs,h=>by
  cases xs with
  | nil=>simp [gO] at h
  | cons x xs=>cases x <;> simp [gO] at h ⊢;exact lh k xs h
 | .i _::k,xs,h=>by
  cases xs with
  | nil=>simp [gO] at h
  | cons x xs=>cases x <;> simp [gO] at h ⊢;exact lh k xs h.2
theorem qr:∀(k:List CK)(a a' b b':List Value),gO k a→gO k a'→fo (a++b) (a'++b')=(fo a a' && fo b b')
 | [],[],[],b,b',_,_=>by simp [fo]
 | [],_::_,_,_,_,h,_=>h.elim
 | [],[],_::_,_,_,_,h=>h.elim
 | .b::k,a,a',b,b',h,h'=>by
  cases a with
  | nil=>simp [gO] at h
  | cons x a=>cases a' with
   | nil=>simp [gO] at h'
   | cons y a' =>
    cases x <;> simp [gO] at h
    cases y <;> simp [gO] at h'
    simp [fo,qr k a a' b b' h h',Bool.and_assoc]
 | .i kk::k,a,a',b,b',h,h'=>by
  cases a with
  | nil=>simp [gO] at h
  | cons x a=>cases a' with
   | nil=>simp [gO] at h'
   | cons y a' =>
    cases x <;> simp [gO] at h
    cases y <;> simp [gO] at h'
    simp [fo,qr k a a' b b' h.2 h'.2,Bool.and_assoc]
theorem A3 {P:Program}{t:TypeId}{fs:Array Field}(h:P.underlying t=some (.struct fs)):P.underlying t=some (.struct (P.fieldsOf t))∧P.fieldsOf t=fs:=by
 have:P.fieldsOf t=fs:=by unfold Program.fieldsOf;rw [h]
 exact⟨by rw [this,h],this⟩
section
variable {P:Program}
theorem GQ {n:Nat}{t:TypeId}{ks:List CK}(h:kK P n t=some ks):P.underlying t=some .bool∨(∃k,P.underlying t=some (.int k))∨∃fs,P.underlying t=some (.struct fs):=by
 cases n with
 | zero=>simp [kK] at h
 | succ n =>
  simp only [kK] at h
  split at h
  ·exact .inl (by assumption)
  ·exact .inr (.inl ⟨_,by assumption⟩)
  ·exact .inr (.inr ⟨_,by assumption⟩)
  ·cases h
theorem Dh {n:Nat}{t:TypeId}{ks:List CK}{i:TypeInfo}{xs:List Value}{o:Nat}{w:World}(h:kK P n t=some ks)(hi:P.info? t=some i)(h0:0<i.size)(hl:o+i.size≤xs.length) :
  (part t xs.toArray o).run P w=.ok (uy P t ((xs.drop o).take i.size)) w:=by
 have he:∀(d:TypeDesc),P.underlying t=some d→md d=false→(part t xs.toArray o).run P w=.ok (((xs.drop o).take i.size).headD undef) w:=by
  intro d hd hg
  simp only [part,Sem.run_bind,nJ w hd,Result.andThen_ok,hg,Bool.false_eq_true,if_false]
  have hx:xs[o]? = some xs[o]:=List.getElem?_eq_getElem (by omega)
  have hh:((xs.drop o).take i.size).headD undef=xs[o]:=by
   rw [List.drop_eq_getElem_cons (by omega:o<xs.length)]
   cases hsz:i.size with
   | zero=>omega
   | succ m=>rw [List.take_succ_cons];rfl
  rw [hh];simp [hx]
 rcases GQ h with hd | ⟨k,hd⟩ | ⟨fs,hd⟩
 ·rw [he _ hd rfl];simp [uy,hd]
 ·rw [he _ hd rfl];simp [uy,hd]
 ·simp only [part,Sem.run_bind,nJ w hd,Result.andThen_ok,md,if_true,ff w hi,Sem.run_pure,uy,hd]
  congr 2
  apply Array.toList_inj.1
  simp
theorem AE {g:TypeId→Option (List CK)}{d m:Nat}(hg:∀t,g t=kK P m t)(ih:∀t ks,kK P m t=some ks→∀(xs ys:List Value)(w:World),gO ks xs→gO ks ys→(Op.equalIn d t (uy P t xs) (uy P t ys)).run P w=.ok (fo xs ys) w)(xs ys:List Value) :
  ∀(fs:List Field) (o:Nat) (ks:List CK) (w:World),BN P g fs o=some ks→gO ks (xs.drop o)→gO ks (ys.drop o)→(Op.eqFields d xs.toArray ys.toArray fs).run P w=.ok (fo (xs.drop o) (ys.drop o)) w
 | [],o,ks,w,h,h1,h2=>by
  simp only [BN,Option.some.injEq] at h
  subst h
  have e1:xs.drop o=[]:=List.eq_nil_of_length_eq_zero (by have:=lh _ _ h1;simpa using this)
  have e2:ys.drop o=[]:=List.eq_nil_of_length_eq_zero (by have:=lh _ _ h2;simpa using this)
  simp [Op.eqFields,e1,e2,fo]
 | f::fs,o,ks,w,h,h1,h2=>by
  simp only [BN] at h
  split at h <;> try contradiction
  rename_i k1 i e1 hi
  split at h <;> try contradiction
  rename_i hc
  obtain⟨hn,ho,hk,h0⟩:=hc
  split at h <;> try contradiction
  rename_i k2 e2
  simp only [Option.some.injEq] at h
  subst h
  rw [hg] at e1
  obtain⟨a1,a2⟩:=qQ _ _ _ h1
  obtain⟨b1,b2⟩:=qQ _ _ _ h2
  have l1:=lh _ _ h1
  have l2:=lh _ _ h2
  simp only [List.length_drop,List.length_append] at l1 l2
  have p1:=Dh (xs:=xs) (o:=o) (w:=w) e1 hi h0 (by omega)
  have p2:=Dh (xs:=ys) (o:=o) (w:=w) e1 hi h0 (by omega)
  rw [←hk] at p1 p2
  subst ho
  simp only [Op.eqFields,ne_eq,hn,not_false_eq_true,if_true,Sem.run_bind,p1,p2,Result.andThen_ok,ih _ _ e1 _ _ _ a1 b1]
  have key:fo (xs.drop f.offset) (ys.drop f.offset)=(fo ((xs.drop f.offset).take k1.length) ((ys.drop f.offset).take k1.length) && fo (xs.drop (f.offset+k1.length)) (ys.drop (f.offset+k1.length))):=by
   rw [←qr k1 _ _ _ _ a1 b1]
   have e:∀l:List Value,l.drop f.offset=(l.drop f.offset).take k1.length++l.drop (f.offset+k1.length):=fun l=>by rw [←List.drop_drop,List.take_append_drop]
   rw [←e xs,←e ys]
  rw [key]
  cases fo ((xs.drop f.offset).take k1.length) ((ys.drop f.offset).take k1.length)
  ·simp
  ·simp only [Bool.not_true,Bool.false_eq_true,if_false,Bool.true_and]
   exact AE hg ih xs ys fs _ k2 w e2 (by rwa [List.drop_drop] at a2) (by rwa [List.drop_drop] at b2)
theorem Dw:∀(n d:Nat)(t:TypeId)(ks:List CK),kK P n t=some ks→n≤d→∀(xs ys:List Value)(w:World),gO ks xs→gO ks ys→(Op.equalIn d t (uy P t xs) (uy P t ys)).run P w=.ok (fo xs ys) w
 | 0,d,t,ks,h,_,_,_,_,_,_=>by simp [kK] at h
 | n+1,0,t,ks,h,hd,_,_,_,_,_=>by omega
 | n+1,d+1,t,ks,h,hd,xs,ys,w,h1,h2=>by
  simp only [kK] at h
  split at h
  ·rename_i e
   simp only [Option.some.injEq] at h
   subst h
   cases xs with
   | nil=>exact h1.elim
   | cons x xs=>cases ys with
    | nil=>exact h2.elim
    | cons y ys =>
     cases x <;> simp [gO] at h1
     cases y <;> simp [gO] at h2
     cases xs <;> simp [gO] at h1
     cases ys <;> simp [gO] at h2
     simp [uy,e,Ht d _ _ e,fo]
  ·rename_i k e
   simp only [Option.some.injEq] at h
   subst h
   cases xs with
   | nil=>exact h1.elim
   | cons x xs=>cases ys with
    | nil=>exact h2.elim
    | cons y ys =>
     cases x <;> simp [gO] at h1
     cases y <;> simp [gO] at h2
     obtain⟨rfl,h1⟩:=h1
     obtain⟨rfl,h2⟩:=h2
     cases xs <;> simp [gO] at h1
     cases ys <;> simp [gO] at h2
     simp [uy,e,QV d _ _ _ e,fo]
  ·rename_i fs e
   split at h <;> try contradiction
   rename_i hst
   obtain⟨e1,e2⟩:=A3 e
   simp only [uy,e]
   rw [run_equalIn_struct w d t _ _ e1 hst,e2]
   have:=AE (P:=P) (g:=kK P n) (d:=d) (m:=n) (fun _=>rfl) (fun t ks h xs ys w a b=>Dw n d t ks h (by omega) xs ys w a b) xs ys fs.toList 0 ks w h (by simpa using h1) (by simpa using h2)
   simpa using this
  ·cases h
def Hr (P:Program)(t:TypeId):Bool:=match P.underlying t with | some (.struct _)=>true | _=>false
theorem RE {t:TypeId}{ks:List CK}(n:Nat)(hu:Hr P t=true)(h:kK P n t=some ks)(hn:n≤10000)(hg:P.eqGuardType P.depth t=false):Ty P t ks :=
 ⟨hg,fun xs ys w h1 h2=>by
  have:=Dw n 10000 t ks h hn xs ys w h1 h2
  obtain⟨fs,hu⟩:∃fs,P.underlying t=some (.struct fs):=by
   unfold Hr at hu
   split at hu
   ·exact⟨_,by assumption⟩
   ·cases hu
  simp only [uy,hu] at this
  exact this⟩
end
end Go.Proofs.YtoealglbimbbmaaGreatDoor.S
