import Derived.Calls
import Derived.Tactics
import Derived.Orders
import Derived.Below
import Derived.Laws.Bits
import Derived.WalkKit
namespace Go.Proofs.YtoealglbimbbmaaGreatDoor.S
open Go
abbrev r9 {α:Type}:List α→Nat→Option α
 | [],_=>none
 | a::_,0=>some a
 | _::l,n+1=>r9 l n
abbrev U6 {α:Type}:List α→Nat→α→List α
 | [],_,_=>[]
 | _::l,0,x=>x::l
 | a::l,n+1,x=>a::U6 l n x
theorem qN {α:Type}:∀(l:List α)(n:Nat),r9 l n=l[n]?
 | [],n=>by simp [r9]
 | a::l,0=>by simp [r9]
 | a::l,n+1=>by simp [r9,qN l n]
def Cq {α:Type}:List α→Nat→List α→List α
 | cs,_,[]=>cs
 | cs,o,v::vs=>Cq (cs.set o v) (o+1) vs
@[simp] theorem LQ {α:Type}:∀(vs cs:List α) (o:Nat),(Cq cs o vs).length=cs.length
 | [],cs,o=>rfl
 | v::vs,cs,o=>by simp [Cq,LQ vs]
theorem q8 {α:Type}:∀(vs cs:List α)(o:Nat),o+vs.length≤cs.length→Cq cs o vs=cs.take o++vs++cs.drop (o+vs.length)
 | [],cs,o,_=>by simp [Cq]
 | v::vs,cs,o,h=>by
  simp only [List.length_cons] at h
  have h1:(cs.set o v).take (o+1)=cs.take o++[v]:=by
   rw [List.take_add_one,List.take_set_of_le (Nat.le_refl o)]
   simp [show o<cs.length by omega]
  have h2:(cs.set o v).drop (o+1+vs.length)=cs.drop (o+1+vs.length):=List.drop_set_of_lt (by omega)
  rw [Cq,q8 vs (cs.set o v) (o+1) (by simp;omega),h1,h2,List.length_cons,show o+(vs.length+1)=o+1+vs.length by omega]
  simp
def one:Value→Bool
 | .agg _ | .tuple _=>false
 | _=>true
def mem (w:World)(b:Nat):Option (List Value) :=
 match w.heap[b]? with
 | some (.cells c _ _)=>some c.toList
 | _=>none
def opn (w:World)(b:Nat):Bool :=
 match w.heap[b]? with
 | some (.cells _ _ z)=>z.1 == 0 && z.2 == 0
 | _=>false
def put (w:World)(b:Nat)(cs:List Value):World :=
 { w with heap:=w.heap.modify b fun
   | .cells _ T z=>.cells cs.toArray T z
   | o=>o }
theorem Jn (w:World)(b i:Nat):w.cell? ⟨b,i,none⟩=(mem w b).bind (·[i]?):=by
 unfold World.cell? mem
 split <;> simp_all
theorem mo {w:World}{b i:Nat}{cs:List Value}(h:mem w b=some cs):w.cell? ⟨b,i,none⟩=cs[i]?:=by
 rw [Jn,h];rfl
theorem L4 {w:World}{b i:Nat}(h:opn w b=true):w.frozen? ⟨b,i,none⟩=false:=by
 unfold opn at h
 unfold World.frozen?
 split <;> rename_i hb <;> simp [hb] at h ⊢
 intro _;omega
theorem tY {w:World}{b:Nat}{cs:List Value}(h:mem w b=some cs):b<w.heap.size:=by
 unfold mem at h
 rcases Nat.lt_or_ge b w.heap.size with hb | hb
 ·exact hb
 ·simp [Array.getElem?_eq_none hb] at h
theorem Kj {w:World}{b i:Nat}{cs:List Value}(v:Value)(h:mem w b=some cs):w.setCell ⟨b,i,none⟩ v=put w b (cs.set i v):=by
 unfold World.setCell put
 congr 1
 apply Array.ext_getElem?
 intro j
 simp only [Array.getElem?_modify]
 split
 ·rename_i hj;subst hj
  unfold mem at h
  cases hb:w.heap[b]? with
  | none=>simp
  | some o =>
   rw [hb] at h
   cases o with
   | cells c T z=>simp at h;subst h;simp;apply Array.toList_inj.1;simp
   | _=>simp at h
 ·rfl
@[simp] theorem Uq (w:World) (b:Nat) (cs:List Value):(put w b cs).heap.size=w.heap.size:=by simp [put]
theorem H6 (w:World)(b b':Nat)(cs:List Value):mem (put w b cs) b'=if b'=b then (mem w b).map (fun _=>cs) else mem w b':=by
 unfold mem put
 simp only [Array.getElem?_modify]
 by_cases h:b=b'
 ·subst h
  simp only [if_true]
  cases w.heap[b]? with
  | none=>simp
  | some o=>cases o <;> simp
 ·rw [if_neg h,if_neg (fun e=>h e.symm)]
theorem Ir (w:World)(b b':Nat)(cs:List Value):opn (put w b cs) b'=opn w b':=by
 unfold opn put
 simp only [Array.getElem?_modify]
 by_cases h:b=b'
 ·subst h
  cases w.heap[b]? with
  | none=>simp
  | some o=>cases o <;> simp
 ·rw [if_neg h]
theorem Bg {w:World}{b:Nat}{cs:List Value}(h:mem w b=some cs):put w b cs=w:=by
 cases w;unfold put mem at *
 simp only [World.mk.injEq,and_true] at *
 apply Array.ext_getElem?
 intro j
 simp only [Array.getElem?_modify]
 split
 ·rename_i hj;subst hj
  rename_i heap _ _ _ _
  cases hb:heap[b]? with
  | none=>rfl
  | some o =>
   simp only [hb] at h
   cases o <;> simp at h ⊢
   subst h;simp
 ·rfl
theorem Jf (w:World)(b:Nat)(cs ds:List Value):put (put w b cs) b ds=put w b ds:=by
 unfold put
 congr 1
 apply Array.ext_getElem?
 intro j
 simp only [Array.getElem?_modify]
 split
 ·cases w.heap[j]? with
  | none=>rfl
  | some o=>cases o <;> rfl
 ·rfl
theorem He (w:World)(c:Array Value)(T:TypeId)(z:Nat×Nat)(b:Nat):mem (w.alloc (.cells c T z)) b=if b=w.heap.size then some c.toList else mem w b:=by
 unfold mem
 show (match (w.heap.push _)[b]? with | some (.cells c _ _)=>some c.toList | _=>none)=_
 rw [Array.getElem?_push]
 by_cases hb:b=w.heap.size
 ·rw [if_pos hb,if_pos hb]
 ·rw [if_neg hb,if_neg hb]
theorem HK (w:World)(c:Array Value)(T:TypeId)(b:Nat):opn (w.alloc (.cells c T)) b=if b=w.heap.size then true else opn w b:=by
 unfold opn
 show (match (w.heap.push _)[b]? with | some (.cells _ _ z)=>z.1 == 0 && z.2 == 0 | _=>false)=_
 rw [Array.getElem?_push]
 by_cases hb:b=w.heap.size
 ·rw [if_pos hb,if_pos hb];rfl
 ·rw [if_neg hb,if_neg hb]
@[simp] theorem TL (w:World) (o:Obj):(w.alloc o).heap.size=w.heap.size+1:=by
 show (w.heap.push o).size=_
 simp
@[simp] theorem TQ (w:World) (b:Nat):mem w.drew b=mem w b:=rfl
@[simp] theorem TT (w:World) (b:Nat):opn w.drew b=opn w b:=rfl
@[simp] theorem TO (w:World):w.drew.heap.size=w.heap.size:=rfl
section
variable {P:Program}
theorem HW {w:World}{b i:Nat}{cs:List Value}{v:Value}(h:mem w b=some cs)(hi:cs[i]? = some v):(load ⟨b,i,none⟩).run P w=.ok v w:=by
 simp [run_load,mo h,hi]
theorem pf (b i n:Nat):(⟨b,i,none⟩:Addr).add n=⟨b,i+n,none⟩:=by
 unfold Addr.add
 split <;> simp_all
theorem rK {w:World}{b:Nat}{cs:List Value}(h:mem w b=some cs):∀(n o i:Nat)(acc:Array Value),o+i+n≤cs.length →
  (loadCellsFrom ⟨b,o,none⟩ i n acc).run P w=.ok (acc++((cs.drop (o+i)).take n).toArray) w
 | 0,o,i,acc,_=>by simp [loadCellsFrom]
 | n+1,o,i,acc,hn=>by
  have hi:cs[o+i]? = some cs[o+i]:=List.getElem?_eq_getElem (by omega)
  simp only [loadCellsFrom,Sem.run_bind,pf,HW h hi,Result.andThen_ok]
  rw [rK h n o (i+1) _ (by omega)]
  congr 1
  rw [show o+(i+1)=o+i+1 by omega]
  apply Array.toList_inj.1
  simp only [Array.toList_append,Array.toList_push,List.append_assoc]
  congr 1
  rw [List.drop_eq_getElem_cons (by omega:o+i<cs.length),List.take_succ_cons]
  simp
theorem rX {w:World}{b o n:Nat}{cs:List Value}(h:mem w b=some cs)(hn:o+n≤cs.length) :
  (loadCells ⟨b,o,none⟩ n).run P w=.ok ((cs.drop o).take n).toArray w:=by
 unfold loadCells
 rw [rK h n o 0 #[] (by omega)]
 simp
theorem Lg {w:World}{b i:Nat}{cs:List Value}{v:Value}(h:mem w b=some cs)(ho:opn w b=true)(hv:one v=true)(hi:i<cs.length) :
  (store ⟨b,i,none⟩ v).run P w=.ok () (put w b (cs.set i v)):=by
 have hc:w.cell? ⟨b,i,none⟩=some cs[i]:=by rw [mo h];exact List.getElem?_eq_getElem hi
 have hf:=L4 (i:=i) ho
 cases v <;> simp [one] at hv <;> simp [store,Sem.run,hc,hf,Kj _ h]
theorem qK {b:Nat}:∀(vs cs:List Value)(w:World)(o i:Nat),mem w b=some cs→opn w b=true→(∀v∈vs,one v=true)→o+i+vs.length≤cs.length →
  (storeCells ⟨b,o,none⟩ vs i).run P w=.ok () (put w b (Cq cs (o+i) vs))
 | [],cs,w,o,i,h,_,_,_=>by simp [storeCells,Cq,Bg h]
 | v::vs,cs,w,o,i,h,ho,hv,hn=>by
  simp only [List.length_cons] at hn
  simp only [storeCells,Sem.run_bind,pf]
  rw [Lg h ho (hv v (by simp)) (by omega)]
  simp only [Result.andThen_ok]
  rw [qK vs (cs.set (o+i) v) _ o (i+1) (by simp [H6,h]) (by rw [Ir];exact ho) (fun u hu=>hv u (by simp [hu])) (by simp;omega),Jf]
  rfl
theorem bo {t:TypeId}{d:TypeDesc}(w:World)(h:P.underlying t=some d):(underlying t).run P w=.ok d w:=by
 simp [underlying,program,Sem.run,h]
theorem jO {t:TypeId}{i:TypeInfo}(w:World)(h:P.info? t=some i):(typeInfo t).run P w=.ok i w:=by
 simp [typeInfo,program,Sem.run,h]
theorem ff {t:TypeId}{i:TypeInfo}(w:World)(h:P.info? t=some i):(sizeOf t).run P w=.ok i.size w:=by
 simp [sizeOf,jO w h]
theorem i9 {t:TypeId}{i:TypeInfo}{z:Value}(w:World)(h:P.info? t=some i)(hz:i.zero=some z):(zeroValue t).run P w=.ok z w:=by
 simp [zeroValue,jO w h,hz]
abbrev md:TypeDesc→Bool
 | .struct _ | .array _ _=>true
 | _=>false
theorem nJ {t:TypeId}{d:TypeDesc}(w:World)(h:P.underlying t=some d):(isAgg t).run P w=.ok (md d) w:=by
 simp only [isAgg,Sem.run_bind,bo w h,Result.andThen_ok]
 cases d <;> rfl
theorem nm (w:World)(e:TypeId)(c:Array Value):(newRow e c).run P w=.ok ⟨w.heap.size,0,none⟩ (w.alloc (.cells c e)):=by
 simp only [newRow,Sem.run_bind]
 rfl
end
end Go.Proofs.YtoealglbimbbmaaGreatDoor.S
namespace Go.Proofs.YtoealglbimbbmaaGreatDoor.S
open Go
abbrev KV:=Value→World→Prop
abbrev fP (l:List UInt8):Value:=.string ⟨l.toArray⟩
def bd (c a b:Value)(K:KV)(w:World):Prop:=match c with | .bool t=>K (if t then a else b) w | _=>False
def ga (x:Value)(K:KV)(w:World):Prop:=match x with | .bool t=>K (.bool (!t)) w | _=>False
def qm (t:Nat)(x:Value)(K:KV)(w:World):Prop:=K (.iface t x) w
def ii (k:IntKind)(x:Value)(K:KV)(w:World):Prop:=match x with | .int _ n=>K (.int k (k.wrap n)) w | _=>False
def kq (op:BinOp)(k:IntKind)(a b:Int):Option Value :=
 match op with
 | .add=>some (.int k (k.wrap (a+b)))
 | .sub=>some (.int k (k.wrap (a-b)))
 | .mul=>some (.int k (k.wrap (a*b)))
 | .quo=>if b=0 then none else some (.int k (k.wrap (a.tdiv b)))
 | .rem=>if b=0 then none else some (.int k (a.tmod b))
 | .and=>some (.int k (k.wrap (BitVec.ofInt k.bits a &&& BitVec.ofInt k.bits b).toNat))
 | .or=>some (.int k (k.wrap (BitVec.ofInt k.bits a ||| BitVec.ofInt k.bits b).toNat))
 | .xor=>some (.int k (k.wrap (BitVec.ofInt k.bits a ^^^ BitVec.ofInt k.bits b).toNat))
 | .eql=>some (.bool (a == b))
 | .neq=>some (.bool (a != b))
 | .lss=>some (.bool (a<b))
 | .leq=>some (.bool (a≤b))
 | .gtr=>some (.bool (a > b))
 | .geq=>some (.bool (a ≥ b))
 | _=>none
def dn (o:Option Value)(K:KV)(w:World):Prop:=match o with | some v=>K v w | none=>False
def aa (op:BinOp)(x y:Value)(K:KV)(w:World):Prop :=
 match x,y with
 | .int k a,.int k' b =>
  match op with
  | .shl=>0≤b∧K (.int k (k.wrap (a*2 ^ min b.toNat k.bits))) w
  | .shr=>0≤b∧K (.int k (a.fdiv (2 ^ min b.toNat k.bits))) w
  | op=>k=k'∧dn (kq op k a b) K w
 | _,_=>False
def F8 (op:BinOp)(t:Bool)(K:KV)(w:World):Prop:=match op with | .eql=>K (.bool t) w | .neq=>K (.bool (!t)) w | _=>False
def fI (op:BinOp)(x y:Value)(K:KV)(w:World):Prop:=match x,y with | .bool a,.bool b=>F8 op (a == b) K w | _,_=>False
def eW (op:BinOp)(x y:Value)(K:KV)(w:World):Prop :=
 match x,y with
 | .pointer none,.pointer b=>F8 op b.isNone K w
 | .pointer (some _),.pointer none=>F8 op false K w
 | _,_=>False
def qw (op:BinOp)(x y:Value)(K:KV)(w:World):Prop:=match x,y with | .string a,.string b=>F8 op (a.toList == b.toList) K w | _,_=>False
def tA (x:Value)(lo hi:Option Value)(K:KV)(w:World):Prop:=match x,lo,hi with
 | .string s,some (.int _ a),some (.int _ b)=>0≤a∧a≤b∧b≤s.size∧K (.string (s.extract a.toNat b.toNat)) w
 | _,_,_=>False
def xV (t:Nat)(z x:Value)(K:KV)(w:World):Prop:=match x with | .iface t' v=>K (if t'=t then .tuple #[v,.bool true] else .tuple #[z,.bool false]) w | _=>False
def Tn:World→Prop:=fun _=>False
def eM (op:BinOp)(x y:Value)(K:KV)(w:World):Prop :=
 match x,y with
 | .slice none _ _,.slice b _ _=>F8 op b.isNone K w
 | .slice (some _) _ _,.slice none _ _=>F8 op false K w
 | _,_=>False
inductive CK where
 | b
 | i (k:IntKind)
 deriving DecidableEq
def gO:List CK→List Value→Prop
 | [],[]=>True
 | .b::ks,.bool _::vs=>gO ks vs
 | .i k::ks,.int k' _::vs=>k=k'∧gO ks vs
 | _,_=>False
def fo:List Value→List Value→Bool
 | [],[]=>true
 | .bool a::xs,.bool b::ys=>a == b && fo xs ys
 | .int _ a::xs,.int _ b::ys=>a == b && fo xs ys
 | _,_=>false
def jf (ks:List CK)(op:BinOp)(x y:Value)(K:KV)(w:World):Prop :=
 match x,y with
 | .agg xs,.agg ys=>gO ks xs.toList∧gO ks ys.toList∧F8 op (fo xs.toList ys.toList) K w
 | _,_=>False
def ab (a:Value)(K:KV)(w:World):Prop :=
 match a with
 | .pointer (some ⟨b,i,none⟩)=>match mem w b with
  | some cs=>dn cs[i]? K w
  | none=>False
 | _=>False
def aj (n:Nat)(a:Value)(K:KV)(w:World):Prop :=
 match a with
 | .pointer (some ⟨b,o,none⟩)=>match mem w b with
  | some cs=>o+n≤cs.length∧K (.agg ((cs.drop o).take n).toArray) w
  | none=>False
 | _=>False
def ag (n:Nat)(a v:Value)(K:KV)(w:World):Prop :=
 match a with
 | .pointer (some ⟨b,o,none⟩)=>match mem w b with
  | some cs=>v.cells.size=n∧(∀u∈v.cells.toList,one u=true)∧opn w b=true∧o+n≤cs.length∧K undef (put w b (Cq cs o v.cells.toList))
  | none=>False
 | _=>False
def eI (cells:Array Value)(K:KV)(w:World):Prop:=∀T,K (.pointer (some ⟨w.heap.size,0,none⟩)) (w.alloc (.cells cells T))
def ad (n:Nat)(x:Value)(K:KV)(w:World):Prop:=match x with | .pointer (some ⟨b,i,none⟩)=>K (.pointer (some ⟨b,i+n,none⟩)) w | _=>False
def bt (sz:Nat)(x ix:Value)(K:KV)(w:World):Prop :=
 match x,ix with
 | .slice (some ⟨b,o,none⟩) len _,.int _ i=>0≤i∧i<len∧K (.pointer (some ⟨b,o+i.toNat*sz,none⟩)) w
 | _,_=>False
def nP (len sz:Nat)(x ix:Value)(K:KV)(w:World):Prop :=
 match x,ix with
 | .pointer (some ⟨b,o,none⟩),.int _ i=>0≤i∧i<len∧K (.pointer (some ⟨b,o+i.toNat*sz,none⟩)) w
 | _,_=>False
def oC (isAgg:Bool)(off size:Nat)(x:Value)(K:KV)(w:World):Prop :=
 match x with
 | .agg cs=>if isAgg then K (.agg (cs.extract off (off+size))) w else dn cs[off]? K w
 | _=>False
def ao (i:Nat)(x:Value)(K:KV)(w:World):Prop:=match x with | .tuple vs=>dn vs[i]? K w | _=>False
def bp (x:Value)(K:KV)(w:World):Prop:=match x with | .slice _ n _=>K (.int .i64 n) w | _=>False
def MF:Value→Value→Option Value
 | .int k x,.int _ y=>some (.int k (if y > x then y else x))
 | _,_=>none
def K4:Value→Value→Option Value
 | .int k x,.int _ y=>some (.int k (if y<x then y else x))
 | _,_=>none
def BC (f:Value→Value→Option Value):Value→List Value→Option Value
 | x,[]=>some x
 | x,y::l=>match f x y with | some z=>BC f z l | none=>none
def lR (x:Value)(l:List Value)(K:KV)(w:World):Prop:=dn (BC MF x l) K w
def iO (x:Value)(l:List Value)(K:KV)(w:World):Prop:=dn (BC K4 x l) K w
def ai (x:Value)(K:KV)(w:World):Prop:=match x with | .pointer (some _)=>K x w | .func (.func _) _ _=>K x w | _=>False
def qG (zero:List Value):List (Nat×Nat×Value)→Option (List Value)
 | []=>some zero
 | (o,n,v)::r=>if v.cells.size=n∧o+n≤zero.length then qG (Cq zero o v.cells.toList) r else none
def ap (zero:List Value)(parts:List (Nat×Nat×Value))(K:KV)(w:World):Prop:=match qG zero parts with | some cs=>K (.agg cs.toArray) w | none=>False
def pQ (n:Nat)(zero:List Value):List Value:=(List.replicate n zero).flatten
def ak (zero:List Value)(len:Nat)(parts:List (Nat×Nat×Value))(K:KV)(w:World):Prop :=
 len*zero.length≤16777216 ∧
 match qG (pQ len zero) parts with
 | some cs=>∀T,K (.slice (some ⟨w.heap.size,0,none⟩) len len) (w.alloc (.cells cs.toArray T))
 | none=>False
def eF (bytes:Nat)(zero:List Value)(len cap:Value)(K:KV)(w:World):Prop :=
 match len,cap with
 | .int _ l,.int _ c=>0≤l∧l≤c∧c≤maxLen∧bytes*c≤140737488355328∧∀T,K (.slice (some ⟨w.heap.size,0,none⟩) l.toNat c.toNat) (w.alloc (.cells (pQ c.toNat zero).toArray T))
 | _,_=>False
def Aw (o:Option Value)(d:Nat):Option Int:=match o with | none=>some d | some (.int _ n)=>some n | some _=>none
def fL (sz:Nat)(x:Value)(lo hi:Option Value)(K:KV)(w:World):Prop :=
 match x with
 | .slice a len cap=>match Aw lo 0,Aw hi len with
  | some l,some h=>0≤l∧l≤h∧h≤cap∧K (.slice (if cap=l.toNat then a else a.map (·.add (l.toNat*sz))) (h.toNat-l.toNat) (cap-l.toNat)) w
  | _,_=>False
 | _=>False
def qz (sz:Nat)(x:Value)(w:World):Option (Nat×List Value) :=
 match x with
 | .slice none n _=>if n=0 then some (0,[]) else none
 | .slice (some a) n _=>if n=0 then some (0,[]) else match a with
  | ⟨b,o,none⟩=>match mem w b with
   | some cs=>if o+n*sz≤cs.length then some (n,(cs.drop o).take (n*sz)) else none
   | none=>none
  | _=>none
 | _=>none
def av (sz bytes:Nat)(s x:Value)(K:KV)(w:World):Prop :=
 match s,qz sz x w with
 | .slice a len cap,some (n,new) =>
  match a with
  | none=>len=0∧cap=0∧n*bytes≤140737488355328∧n≤maxLen ∧
   (n=0→K (.slice none 0 0) w) ∧
   (0<n→∀(c:Nat) (rest:List Value) T,n≤c→c≤maxLen→rest.length=(c-n)*sz→K (.slice (some ⟨w.heap.size,0,none⟩) n c) (w.drew.alloc (.cells (new++rest).toArray T)))
  | some ⟨b,o,none⟩=>match mem w b with
   | some cs=>o+cap*sz≤cs.length∧len≤cap∧(len+n)*bytes≤140737488355328∧len+n≤maxLen ∧
    (len+n≤cap→(n=0∨opn w b=true)∧(∀u∈new,one u=true)∧K (.slice (some ⟨b,o,none⟩) (len+n) cap) (put w b (Cq cs (o+len*sz) new))) ∧
    (cap<len+n→∀(c:Nat) (rest:List Value) T,len+n≤c→c≤maxLen→rest.length=(c-(len+n))*sz →
     K (.slice (some ⟨w.heap.size,0,none⟩) (len+n) c) (w.drew.alloc (.cells ((cs.drop o).take (len*sz)++new++rest).toArray T)))
   | none=>False
  | _=>False
 | _,_=>False
def ax (J:World→Prop)(B:(World→Prop)→World→Prop):World→Prop:=B J
def cu (J:Value→World→Prop)(B:(Value→World→Prop)→World→Prop):World→Prop:=B J
def lQ (J:Value→Value→World→Prop)(B:(Value→Value→World→Prop)→World→Prop):World→Prop:=B J
def S3 (J:Value→Value→Value→World→Prop)(B:(Value→Value→Value→World→Prop)→World→Prop):World→Prop:=B J
end Go.Proofs.YtoealglbimbbmaaGreatDoor.S
namespace Go.Proofs.YtoealglbimbbmaaGreatDoor.S
open Go
def qP (P:Program)(s:Sem Value)(K:KV)(w:World):Prop:=∃v w',s.run P w=.ok v w'∧K v w'
section
variable {P:Program}{K:KV}{w:World}
theorem NP {t:TypeId}{d:TypeDesc}{a:Value}(hd:P.underlying t=some d)(hg:md d=false)(h:ab a K w):qP P (Instr.loadAt t a) K w:=by
 unfold ab at h
 split at h <;> try exact h.elim
 split at h <;> try exact h.elim
 rename_i b i cs hm
 unfold dn at h
 split at h <;> try exact h.elim
 rename_i v hv
 exact⟨v,w,by simp [Instr.loadAt,Instr.sureAddr,loadVar,nJ w hd,hg,mo hm,hv],h⟩
theorem OL {t:TypeId}{d:TypeDesc}{i:TypeInfo}{a:Value}(hd:P.underlying t=some d)(hi:P.info? t=some i)(hg:md d=true)(h:aj i.size a K w):qP P (Instr.loadAt t a) K w:=by
 unfold aj at h
 split at h <;> try exact h.elim
 split at h <;> try exact h.elim
 rename_i b o cs hm
 exact⟨_,w,by simp [Instr.loadAt,Instr.sureAddr,loadVar,nJ w hd,hg,ff w hi,rX hm h.1],h.2⟩
theorem Ou {t:TypeId}{i:TypeInfo}{a v:Value}(hi:P.info? t=some i)(h:ag i.size a v K w):∃w',(Instr.storeAt t a v).run P w=.ok () w'∧K undef w':=by
 unfold ag at h
 split at h <;> try exact h.elim
 rename_i b o
 split at h <;> try exact h.elim
 rename_i cs hm
 obtain⟨h1,h2,h3,h4,h5⟩:=h
 refine⟨_,?_,h5⟩
 have:=qK (P:=P) v.cells.toList cs w o 0 hm h3 h2 (by simp;omega)
 simp only [Nat.add_zero] at this
 simp [Instr.storeAt,Instr.sureAddr,storeVar,ff w hi,h1,this]
theorem Ng {t:TypeId}{c:Array Value}(h:eI c K w):qP P (do pure (.pointer (some (←newRow t c)))) K w :=
 ⟨_,_,by simp only [Sem.run_bind,nm,Result.andThen_ok,Sem.run_pure],h t⟩
theorem Gj {s:TypeId}{fs:Array Field}{f:Nat}{fd:Field}{i:TypeInfo}{x:Value}(hs:P.underlying s=some (.struct fs))(hf:fs[f]? = some fd)(hi:P.info? fd.type=some i)
  (h0:i.size≠0) (h:ad fd.offset x K w):qP P (Instr.fieldAt s x f) K w:=by
 unfold ad at h
 split at h <;> try exact h.elim
 exact⟨_,w,by simp [Instr.fieldAt,bo w hs,hf,Instr.sureAddr,fieldPlace,ff w hi,h0,pf],h⟩
theorem Rf {t e:TypeId}{i:TypeInfo}{x ix:Value}(ht:P.underlying t=some (.slice e))(hi:P.info? e=some i)(h:bt i.size x ix K w):qP P (Instr.indexAt t x ix) K w:=by
 unfold bt at h
 split at h <;> try exact h.elim
 obtain⟨h1,h2,h3⟩:=h
 exact⟨_,w,by simp [Instr.indexAt,asIntOf,bo w ht,ff w hi,h1,h2,pf],h3⟩
theorem LC {t e:TypeId}{n:Nat}{i:TypeInfo}{x ix:Value}(ht:P.underlying t=some (.array n e))(hi:P.info? e=some i)(h:nP n i.size x ix K w):qP P (Instr.indexAt t x ix) K w:=by
 unfold nP at h
 split at h <;> try exact h.elim
 obtain⟨h1,h2,h3⟩:=h
 exact⟨_,w,by simp [Instr.indexAt,asIntOf,Instr.sureAddr,bo w ht,ff w hi,h1,h2,pf],h3⟩
theorem PZ {t:TypeId}{d:TypeDesc}{i:TypeInfo}{cs:Array Value}{o:Nat}(hd:P.underlying t=some d)(hi:P.info? t=some i)(h:oC (md d) o i.size (.agg cs) K w):qP P (part t cs o) K w:=by
 unfold oC at h
 simp only at h
 unfold qP part
 simp only [Sem.run_bind,nJ w hd,Result.andThen_ok]
 cases hg:md d
 ·simp only [hg,Bool.false_eq_true,if_false] at h ⊢
  unfold dn at h
  split at h <;> try exact h.elim
  rename_i v hv
  exact⟨v,w,by simp [hv],h⟩
 ·simp only [hg,if_true] at h ⊢
  exact⟨_,w,by simp [ff w hi],h⟩
theorem Pa {s:TypeId}{fs:Array Field}{f:Nat}{fd:Field}{d:TypeDesc}{i:TypeInfo}{x:Value}(hs:P.underlying s=some (.struct fs))(hf:fs[f]? = some fd)(hd:P.underlying fd.type=some d)
  (hi:P.info? fd.type=some i) (h:oC (md d) fd.offset i.size x K w):qP P (Instr.field s x f) K w:=by
 cases x <;> try exact h.elim
 obtain⟨v,w',hr,hk⟩:=PZ hd hi h
 exact⟨v,w',by simp [Instr.field,bo w hs,hf,asAgg,hr],hk⟩
theorem KO {x:Value}{i:Nat}(h:ao i x K w):qP P (Instr.extract x i) K w:=by
 unfold ao at h
 split at h <;> try exact h.elim
 unfold dn at h
 split at h <;> try exact h.elim
 rename_i v hv
 exact⟨v,w,by simp [Instr.extract,hv],h⟩
theorem OW {t:TypeId}{d:TypeDesc}{x:Value}(ht:P.underlying t=some d)(hd:∀a,d=.interface a→False)(h:qm t x K w):qP P (Instr.makeInterface t x) K w:=by
 refine⟨.iface t x,w,?_,h⟩
 simp only [Instr.makeInterface,Sem.run_bind,bo w ht,Result.andThen_ok]
 exact Sem.run_pure ..
theorem Rz {t e:TypeId}{x:Value}{ty:TypeId}(ht:P.underlying t=some (.slice e))(h:bp x K w):qP P (Builtin.len_ #[t] ty #[x]) K w:=by
 unfold bp at h
 split at h <;> try exact h.elim
 exact⟨_,w,by simp [Builtin.len_,bo w ht,goInt],h⟩
theorem EE (f:Value→Value→Option Value)(g:Value→Value→Sem Value)(hfg:∀x y z,f x y=some z→(g x y).run P w=.ok z w) :
  ∀(l:List Value) (x z:Value),BC f x l=some z→(l.foldlM g x).run P w=.ok z w
 | [],x,z,h=>by simp [BC] at h;simp [h]
 | y::l,x,z,h=>by
  simp only [BC] at h
  split at h
  ·rename_i u hu
   simp only [List.foldlM_cons,Sem.run_bind,hfg _ _ _ hu,Result.andThen_ok]
   exact EE f g hfg l u z h
  ·exact(by cases h)
theorem Q1 {x:Value}{l:List Value}{ts:Array TypeId}{ty:TypeId}(h:lR x l K w):qP P (Builtin.max_ ts ty (x::l).toArray) K w:=by
 unfold lR dn at h
 split at h <;> try exact h.elim
 rename_i v hv
 refine⟨v,w,?_,h⟩
 simp only [Builtin.max_]
 exact EE MF Builtin.max2 (fun x y z hz=>by cases x <;> cases y <;> simp [MF] at hz;subst hz;simp [Builtin.max2]) l x v hv
theorem RD {x:Value}{l:List Value}{ts:Array TypeId}{ty:TypeId}(h:iO x l K w):qP P (Builtin.min_ ts ty (x::l).toArray) K w:=by
 unfold iO dn at h
 split at h <;> try exact h.elim
 rename_i v hv
 refine⟨v,w,?_,h⟩
 simp only [Builtin.min_]
 exact EE K4 Builtin.min2 (fun x y z hz=>by cases x <;> cases y <;> simp [K4] at hz;subst hz;simp [Builtin.min2]) l x v hv
theorem LJ {t:TypeId}{op:BinOp}{x y:Value}(h:aa op x y K w):qP P (binOp op t x y) K w:=by
 unfold aa at h
 split at h <;> try exact h.elim
 rename_i k a k' b
 split at h
 ·exact⟨_,w,by simp [binOp,Op.shift,show ¬b<0 by omega],h.2⟩
 ·exact⟨_,w,by simp [binOp,Op.shift,show ¬b<0 by omega],h.2⟩
 ·rename_i h1 h2
  obtain⟨rfl,h⟩:=h
  unfold dn at h
  split at h <;> try exact h.elim
  rename_i v hv
  refine⟨v,w,?_,h⟩
  cases op <;> simp [kq] at hv h1 h2 <;> (try subst hv) <;> (try simp [binOp,Op.intArith,Op.intBits,Op.intCmp]) <;> (obtain⟨hb,rfl⟩:=hv;simp [Op.intDiv,hb])
theorem Ht {t:TypeId}(n:Nat)(a b:Bool)(ht:P.underlying t=some .bool):(Op.equalIn (n+1) t (.bool a) (.bool b)).run P w=.ok (a == b) w:=by
 simp [Op.equalIn,bo w ht]
theorem QV {t:TypeId}{k:IntKind}(n:Nat)(k':IntKind)(a b:Int)(ht:P.underlying t=some (.int k)):(Op.equalIn (n+1) t (.int k' a) (.int k' b)).run P w=.ok (a == b) w:=by
 simp [Op.equalIn,bo w ht]
theorem QO {t e:TypeId}(n:Nat)(b:Option Addr)(ht:P.underlying t=some (.pointer e)):(Op.equalIn (n+1) t (.pointer none) (.pointer b)).run P w=.ok b.isNone w:=by
 simp [Op.equalIn,bo w ht]
theorem Od {t e:TypeId}(n:Nat)(b:Addr)(ht:P.underlying t=some (.pointer e)):(Op.equalIn (n+1) t (.pointer (some b)) (.pointer none)).run P w=.ok false w:=by
 simp [Op.equalIn,bo w ht]
theorem Pd {t e:TypeId}(n:Nat)(b:Option Addr)(i j l c:Nat)(ht:P.underlying t=some (.slice e)):(Op.equalIn (n+1) t (.slice none i j) (.slice b l c)).run P w=.ok b.isNone w:=by
 simp [Op.equalIn,bo w ht]
theorem LN {t e:TypeId}(n:Nat)(b:Addr)(i j l c:Nat)(ht:P.underlying t=some (.slice e)):(Op.equalIn (n+1) t (.slice (some b) l c) (.slice none i j)).run P w=.ok false w:=by
 simp [Op.equalIn,bo w ht]
theorem B9 {t:TypeId}{op:BinOp}{x y:Value}{r:Bool}(hx:∀op',binOp op' t x y=match (op':BinOp) with | .eql=>(do pure (.bool (←Op.equal t x y))) | .neq=>(do pure (.bool (!(←Op.equal t x y)))) | _=>binOp op' t x y)
  (hr:(Op.equal t x y).run P w=.ok r w) (h:F8 op r K w):qP P (binOp op t x y) K w:=by
 unfold F8 at h
 split at h <;> try exact h.elim
 ·exact⟨_,w,by rw [hx];simp only [Sem.run_bind,hr,Result.andThen_ok,Sem.run_pure],h⟩
 ·exact⟨_,w,by rw [hx];simp only [Sem.run_bind,hr,Result.andThen_ok,Sem.run_pure],h⟩
theorem Jw {t:TypeId}{op:BinOp}{x y:Value}(ht:P.underlying t=some .bool)(h:fI op x y K w):qP P (binOp op t x y) K w:=by
 unfold fI at h
 split at h <;> try exact h.elim
 exact B9 (fun op'=>by cases op' <;> rfl) (Ht 9999 _ _ ht) h
theorem NF {t e:TypeId}{op:BinOp}{x y:Value}(ht:P.underlying t=some (.pointer e))(h:eW op x y K w):qP P (binOp op t x y) K w:=by
 unfold eW at h
 split at h <;> try exact h.elim
 ·exact B9 (fun op'=>by cases op' <;> rfl) (QO 9999 _ ht) h
 ·exact B9 (fun op'=>by cases op' <;> rfl) (Od 9999 _ ht) h
theorem D4 {t e:TypeId}{op:BinOp}{x y:Value}(ht:P.underlying t=some (.slice e))(h:eM op x y K w):qP P (binOp op t x y) K w:=by
 unfold eM at h
 split at h <;> try exact h.elim
 ·exact B9 (fun op'=>by cases op' <;> rfl) (Pd 9999 _ _ _ _ _ ht) h
 ·exact B9 (fun op'=>by cases op' <;> rfl) (LN 9999 _ _ _ _ _ ht) h
theorem OJ {t:TypeId}{op:BinOp}{x y:Value}(h:qw op x y K w):qP P (binOp op t x y) K w:=by
 unfold qw at h
 split at h <;> try exact h.elim
 unfold F8 at h
 split at h <;> try exact h.elim
 ·exact⟨_,w,by simp [binOp,Op.stringOp],h⟩
 ·exact⟨_,w,by simp [binOp,Op.stringOp],h⟩
theorem Mj {t xt:TypeId}{i:TypeInfo}{z x:Value}{d:TypeDesc}(ht:P.underlying t=some d)(hd:∀a,d=.interface a→False)(hi:P.info? t=some i)(hz:i.zero=some z)(h:xV t z x K w):qP P (Instr.typeAssert x xt t true) K w:=by
 unfold xV at h
 split at h <;> try exact h.elim
 rename_i t' v
 refine⟨_,w,?_,h⟩
 simp only [Instr.typeAssert,Sem.run_bind,bo w ht,Result.andThen_ok]
 by_cases h1:t'=t
 ·rw [if_pos h1]
  cases d <;> first | exact(hd _ rfl).elim | (simp only [h1,if_true];exact Sem.run_pure ..)
 ·rw [if_neg h1]
  cases d <;> first | exact(hd _ rfl).elim | simp only [if_neg h1,if_true,Sem.run_bind,i9 w hi hz,Result.andThen_ok,Sem.run_pure]
def Ty (P:Program)(t:TypeId)(ks:List CK):Prop :=
 P.eqGuardType P.depth t=false∧∀(xs ys:List Value) (w:World),gO ks xs→gO ks ys→(Op.equal t (.agg xs.toArray) (.agg ys.toArray)).run P w=.ok (fo xs ys) w
theorem NR {t:TypeId}{ks:List CK}{op:BinOp}{x y:Value}(ht:Ty P t ks)(h:jf ks op x y K w):qP P (binOp op t x y) K w:=by
 unfold jf at h
 split at h <;> try exact h.elim
 obtain⟨h1,h2,h3⟩:=h
 exact B9 (fun op'=>by cases op' <;> rfl) (by simpa using ht.2 _ _ w h1 h2) h3
end
end Go.Proofs.YtoealglbimbbmaaGreatDoor.S
namespace Go.Proofs.YtoealglbimbbmaaGreatDoor.S
open Go
section
variable {P:Program}{K:KV}{w:World}
theorem Mz (off:Nat):∀(l:List Value)(k:Nat)(cs:Array Value),((l.zipIdx k).foldl (fun cs p=>cs.setIfInBounds (off+p.2) p.1) cs).toList=Cq cs.toList (off+k) l
 | [],k,cs=>rfl
 | v::l,k,cs=>by
  simp only [List.zipIdx_cons,List.foldl_cons]
  rw [Mz off l (k+1)]
  simp [Cq,Nat.add_assoc]
theorem zC (place:Nat→Option (Nat×Nat)):∀(parts:List (Nat×Value))(ps:List (Nat×Nat×Value))(cells:Array Value)(cs:List Value),
  (parts.mapM fun x=>(place x.1).map fun q=>(q.1,q.2,x.2))=some ps→qG cells.toList ps=some cs→Instr.fill place cells parts=some cs.toArray
 | [],ps,cells,cs,h,hb=>by
  simp at h;subst h;simp [qG] at hb;subst hb;simp [Instr.fill]
 | (i,v)::parts,ps,cells,cs,h,hb=>by
  simp only [List.mapM_cons,Option.bind_eq_bind,Option.bind_eq_some_iff,Option.map_eq_some_iff,Option.pure_def,Option.some.injEq] at h
  obtain⟨a,⟨q,hq,rfl⟩,ps',h',rfl⟩:=h
  simp only [qG] at hb
  split at hb
  ·rename_i hc
   simp only [Instr.fill,hq]
   rw [if_neg (by simp only [Bool.or_eq_true,decide_eq_true_eq,ne_eq];simp at hc ⊢;omega)]
   refine zC place parts ps' _ cs h' ?_
   rw [←hb]
   congr 1
   have:=Mz q.1 v.cells.toList 0 cells
   simp only [Nat.add_zero] at this
   rw [←this]
   rw [←Array.foldl_toList,Array.toList_zipIdx]
  ·cases hb
theorem KU {α β:Type}(f:α→Sem β)(g:α→β)(w:World):∀(l:List α),(∀x∈l,(f x).run P w=.ok (g x) w)→(l.mapM f).run P w=.ok (l.map g) w
 | [],_=>by simp
 | x::l,h=>by
  simp only [List.mapM_cons,Sem.run_bind,h x (by simp),Result.andThen_ok,KU f g w l (fun y hy=>h y (by simp [hy])),Sem.run_pure,List.map_cons]
abbrev places (P:Program):List Field→Option (List (Nat×Nat))
 | []=>some []
 | f::fs=>match P.info? f.type,places P fs with
  | some i,some l=>some ((f.offset,i.size)::l)
  | _,_=>none
theorem D3:∀(fs:List Field)(l:List (Nat×Nat)),places P fs=some l→(∀f∈fs,∃i,P.info? f.type=some i)∧l=fs.map fun f=>(f.offset,((P.info? f.type).map (·.size)).getD 0)
 | [],l,h=>by simp [places] at h;simp [h]
 | f::fs,l,h=>by
  simp only [places] at h
  split at h
  ·rename_i i l' hi hl
   obtain⟨h1,h2⟩:=D3 fs l' hl
   cases h
   refine⟨?_,by simp [hi,←h2]⟩
   intro g hg
   rcases List.mem_cons.1 hg with rfl | hg
   ·exact⟨i,hi⟩
   ·exact h1 g hg
  ·cases h
theorem Oj {t:TypeId}{fs:Array Field}{i:TypeInfo}{z:Value}{parts:Array (Nat×Value)}{pl:List (Nat×Nat)}{ps:List (Nat×Nat×Value)}(ht:P.underlying t=some (.struct fs))(hi:P.info? t=some i)(hz:i.zero=some z)
  (hpl:places P fs.toList=some pl) (hps:(parts.toList.mapM fun x=>(r9 pl x.1).map fun q=>(q.1,q.2,x.2))=some ps) (h:ap z.cells.toList ps K w):qP P (Instr.build t parts) K w:=by
 unfold ap at h
 split at h <;> try exact h.elim
 rename_i cs hcs
 obtain⟨h1,h2⟩:=D3 _ _ hpl
 have hm:(fs.mapM (m:=Sem) fun f=>do pure (f.offset,←sizeOf f.type)).run P w=.ok pl.toArray w:=by
  rw [Array.mapM_eq_mapM_toList,Sem.run_map,KU _ (fun f=>(f.offset,((P.info? f.type).map (·.size)).getD 0)) w]
  ·simp [h2]
  ·intro f hf
   obtain⟨j,hj⟩:=h1 f hf
   simp [ff w hj,hj]
 refine⟨_,w,?_,h⟩
 have hfill:Instr.fill (fun x=>pl.toArray[x]?) z.cells parts.toList=some cs.toArray:=by
  refine zC _ _ ps _ cs ?_ hcs
  simpa [qN] using hps
 simp only [Instr.build,Sem.run_bind,i9 w hi hz,Result.andThen_ok,bo w ht,hm,hfill,Sem.run_pure]
theorem C6 (zero:Array Value):∀n:Nat,((Array.range (n*zero.size)).map (zero[· % zero.size]!)).toList=pQ n zero.toList
 | 0=>by simp [pQ]
 | n+1=>by
  have ih:=C6 zero n
  simp only [Array.toList_map,Array.toList_range] at ih ⊢
  rw [Nat.succ_mul,List.range_add,List.map_append,ih]
  simp only [pQ,List.replicate_succ',List.flatten_append,List.flatten_cons,List.flatten_nil,List.append_nil]
  congr 1
  apply List.ext_getElem
  ·simp
  ·intro j h1 h2
   simp only [List.length_map,List.length_range] at h1
   simp only [List.map_map,List.getElem_map,List.getElem_range,Function.comp]
   rw [Nat.mul_comm,Nat.mul_add_mod,Nat.mod_eq_of_lt h1,getElem!_pos zero j h1]
   simp
theorem FG (zero:Array Value)(n:Nat):(Array.range (n*zero.size)).map (zero[· % zero.size]!)=(pQ n zero.toList).toArray:=by
 apply Array.toList_inj.1
 rw [C6]
theorem E4 {t e:TypeId}{i:TypeInfo}{z:Value}{len:Nat}{parts:Array (Nat×Value)}{ps:List (Nat×Nat×Value)}(ht:P.underlying t=some (.slice e))(hi:P.info? e=some i)(hz:i.zero=some z)(hs:z.cells.size=i.size)
  (hps:ps=parts.toList.map fun x=>(x.1*i.size,i.size,x.2)) (h:ak z.cells.toList len ps K w):qP P (Instr.buildSlice t len parts) K w:=by
 unfold ak at h
 obtain⟨hb,h⟩:=h
 split at h <;> try exact h.elim
 rename_i cs hcs
 have hb':len*i.size≤16777216:=by simpa [hs] using hb
 have hcells:(Array.range (len*i.size)).map (((if len*i.size=0 then #[] else z.cells):Array Value)[· % ((if len*i.size=0 then #[] else z.cells):Array Value).size]!)=(pQ len z.cells.toList).toArray:=by
  by_cases h0:len*i.size=0
  ·rw [h0]
   rcases Nat.mul_eq_zero.1 h0 with h0 | h0
   ·subst h0;simp [pQ]
   ·have:z.cells.toList=[]:=by
     apply List.eq_nil_of_length_eq_zero;simp [hs,h0]
    rw [this];simp [pQ]
  ·simp only [if_neg h0]
   rw [←hs,FG]
 have hfill:Instr.fill (fun j=>some (j*i.size,i.size)) (pQ len z.cells.toList).toArray parts.toList=some cs.toArray:=by
  refine zC _ _ ps _ cs ?_ (by simpa using hcs)
  rw [hps]
  simp only [Option.map_some]
  generalize parts.toList=l
  induction l with
  | nil=>rfl
  | cons x l ih=>simp only [List.mapM_cons,ih,List.map_cons];rfl
 refine⟨_,_,?_,h e⟩
 simp only [Instr.buildSlice,Sem.run_bind,bo w ht,Result.andThen_ok,ff w hi]
 rw [if_neg (by omega)]
 by_cases h0:len*i.size=0
 ·simp only [if_pos h0] at hcells ⊢
  simp only [Sem.run_bind,Sem.run_pure,Result.andThen_ok,hcells,hfill,nm]
 ·simp only [if_neg h0] at hcells ⊢
  simp only [Sem.run_bind,Sem.run_pure,Result.andThen_ok,i9 w hi hz,hcells,hfill,nm]
theorem JB {n:Int}(h0:0≤n)(h1:n≤9223372036854775807):IntKind.i64.wrap n=n:=by
 simp [IntKind.wrap,IntKind.bits,IntKind.signed]
 omega
theorem G5 {t e:TypeId}{i:TypeInfo}{z:Value}{l c:Value}(ht:P.underlying t=some (.slice e))(hi:P.info? e=some i)(hz:i.zero=some z)(hs:z.cells.size=i.size)
  (h:eF i.bytes z.cells.toList l c K w):qP P (Instr.makeSlice t l c) K w:=by
 unfold eF at h
 split at h <;> try exact h.elim
 rename_i k l k' c
 obtain⟨h0,h1,h2,h3,h⟩:=h
 have h2':c≤9223372036854775807:=by simp only [maxLen] at h2;omega
 have hl:=JB h0 (by omega:l≤9223372036854775807)
 have hc:=JB (by omega:0≤c) h2'
 have hcells:(Array.range (c.toNat*i.size)).map (((if c.toNat*i.size=0 then #[] else z.cells):Array Value)[· % ((if c.toNat*i.size=0 then #[] else z.cells):Array Value).size]!)=(pQ c.toNat z.cells.toList).toArray:=by
  by_cases h0:c.toNat*i.size=0
  ·rw [h0]
   rcases Nat.mul_eq_zero.1 h0 with h0 | h0
   ·rw [h0];simp [pQ]
   ·have:z.cells.toList=[]:=by
     apply List.eq_nil_of_length_eq_zero;simp [hs,h0]
    rw [this];simp [pQ]
  ·simp only [if_neg h0]
   rw [←hs,FG]
 refine⟨_,_,?_,h e⟩
 have hc1:¬((decide (c<0) || decide ((i.bytes:Int)*c > 281474976710656))=true):=by simp;omega
 simp only [Instr.makeSlice,Sem.run_bind,bo w ht,Result.andThen_ok,asInt,asIntOf,Sem.run_pure,jO w hi,hl,hc]
 have hcond:((decide (c<0) || decide ((i.bytes:Int)*c > 2 ^ 48)) || decide (l<0) || decide (l > c))=false:=by
  have:(2:Int) ^ 48=281474976710656:=by decide
  simp [this];omega
 rw [if_neg (by simpa using hcond)]
 by_cases h4:c.toNat*i.size=0
 ·simp only [if_pos h4] at hcells
  simp only [Sem.run_bind,run_askRoom,Result.andThen_ok,ff w hi,if_pos h4,Sem.run_pure,hcells,nm]
 ·simp only [if_neg h4] at hcells
  simp only [Sem.run_bind,run_askRoom,Result.andThen_ok,ff w hi,if_neg h4,Sem.run_pure,i9 w hi hz,hcells,nm]
theorem OC {t e:TypeId}{i:TypeInfo}{x:Value}{lo hi':Option Value}(ht:P.underlying t=some (.slice e))(hi:P.info? e=some i)(h:fL i.size x lo hi' K w):qP P (Instr.sliceAt t x lo hi' none) K w:=by
 unfold fL at h
 split at h <;> try exact h.elim
 rename_i a len cap
 split at h <;> try exact h.elim
 rename_i l h' hl hh
 obtain⟨h1,h2,h3,h⟩:=h
 obtain⟨ln,rfl⟩:=Int.eq_ofNat_of_zero_le h1
 obtain⟨hn,rfl⟩:=Int.eq_ofNat_of_zero_le (Int.le_trans h1 h2)
 have h2':ln≤hn:=by omega
 have h3':hn≤cap:=by omega
 refine⟨_,w,?_,h⟩
 have sb:∀(k:IntKind) (i y:Nat) (c:BoundsCode),i≤y→(Instr.sliceBound (.int k i) y c).run P w=.ok i w:=by
  intro k i y c hiy
  unfold Instr.sliceBound
  simp only [asIntOf,Sem.run_bind,Sem.run_pure,Result.andThen_ok]
  rw [if_pos (by omega)]
  simp
 have hb:(Instr.sliceBounds true len cap lo hi' none).run P w=.ok (ln,hn,cap) w:=by
  unfold Instr.sliceBounds
  unfold Aw at hl hh
  split at hl
  ·split at hh
   ·simp only [Option.some.injEq,Int.ofNat_inj] at hl hh;subst hl;subst hh
    simp
   ·simp only [Option.some.injEq] at hl hh;subst hh
    have:ln=0:=by omega
    subst this
    simp [sb _ _ _ _ h3']
   ·cases hh
  ·split at hh
   ·simp only [Option.some.injEq] at hl hh;subst hl
    have:len=hn:=by omega
    subst this
    simp [sb _ _ _ _ h2']
   ·simp only [Option.some.injEq] at hl hh;subst hl;subst hh
    simp [sb _ _ _ _ h2',sb _ _ _ _ h3']
   ·cases hh
  ·cases hl
 simp only [Instr.sliceAt,Sem.run_bind,bo w ht,Result.andThen_ok,Instr.slice,hb,ff w hi,Sem.run_pure,Int.toNat_natCast]
theorem Lf {t:TypeId}{x:Value}{lo hi:Option Value}(ht:P.underlying t=some .string)(h:tA x lo hi K w):qP P (Instr.sliceAt t x lo hi none) K w:=by
 unfold tA at h
 split at h <;> try exact h.elim
 rename_i s k1 a k2 b
 obtain⟨h1,h2,h3,h⟩:=h
 obtain⟨ln,rfl⟩:=Int.eq_ofNat_of_zero_le h1
 obtain⟨hn,rfl⟩:=Int.eq_ofNat_of_zero_le (Int.le_trans h1 h2)
 have h2':ln≤hn:=by omega
 have h3':hn≤s.size:=by omega
 refine⟨_,w,?_,h⟩
 have sb:∀(k:IntKind) (i y:Nat) (c:BoundsCode),i≤y→(Instr.sliceBound (.int k i) y c).run P w=.ok i w:=by
  intro k i y c hiy
  unfold Instr.sliceBound
  simp only [asIntOf,Sem.run_bind,Sem.run_pure,Result.andThen_ok]
  rw [if_pos (by omega)]
  simp
 have hb:(Instr.sliceBounds false s.size s.size (some (.int k1 ln)) (some (.int k2 hn)) none).run P w=.ok (ln,hn,s.size) w:=by
  unfold Instr.sliceBounds
  simp [sb _ _ _ _ h2',sb _ _ _ _ h3']
 simp only [Instr.sliceAt,Sem.run_bind,bo w ht,Result.andThen_ok,Instr.slice,Option.isSome_none,Bool.false_eq_true,if_false,hb,Sem.run_pure,Int.toNat_natCast]
theorem wZ {b o n sz c:Nat}{cs:List Value}(h:mem w b=some cs)(hn:o+n*sz≤cs.length):(Builtin.firstCells sz n (.slice (some ⟨b,o,none⟩) n c)).run P w=.ok ((cs.drop o).take (n*sz)).toArray w:=by
 simp only [Builtin.firstCells]
 exact rX h hn
theorem M9 {sz:Nat}{x:Value}{n:Nat}{new:List Value}(h:qz sz x w=some (n,new)):∃a c,x=.slice a n c∧(Builtin.firstCells sz n x).run P w=.ok new.toArray w∧new.length=n*sz:=by
 unfold qz at h
 split at h
 ·split at h
  ·cases h;rename_i hn;subst hn;exact⟨_,_,rfl,by simp [Builtin.firstCells],by simp⟩
  ·cases h
 ·split at h
  ·cases h;rename_i hn;subst hn;exact⟨_,_,rfl,by simp [Builtin.firstCells,loadCells,loadCellsFrom],by simp⟩
  ·split at h
   ·split at h
    ·rename_i hm
     split at h
     ·rename_i hn
      cases h
      exact⟨_,_,rfl,wZ hm hn,by simp;omega⟩
     ·cases h
    ·cases h
   ·cases h
 ·cases h
theorem CI (z:Array Value)(n:Nat):(Builtin.zeroCells z n).toList.length=n*z.size:=by simp [Builtin.zeroCells]
theorem K9 {t e ty:TypeId}{i:TypeInfo}{z:Value}{s x:Value}(ht:P.underlying t=some (.slice e))(hi:P.info? e=some i)(hz:i.zero=some z)(hs:z.cells.size=i.size)
  (h:av i.size i.bytes s x K w):qP P (Builtin.append_ #[t,t] ty #[s,x]) K w:=by
 unfold av at h
 split at h <;> try exact h.elim
 rename_i a len cap n new hsrc
 obtain⟨xa,xc,hx,hxr,hnl⟩:=M9 (P:=P) hsrc
 have hxl:(Builtin.lenOf x).run P w=.ok n w:=by rw [hx];rfl
 have grow:∀(old:List Value),len+n≤maxLen→(len+n)*i.bytes≤140737488355328→cap<len+n→(Builtin.firstCells i.size len (.slice a len cap)).run P w.drew=.ok old.toArray w.drew →
   (∀(c:Nat) (rest:List Value) T,len+n≤c→c≤maxLen→rest.length=(c-(len+n))*i.size→K (.slice (some ⟨w.heap.size,0,none⟩) (len+n) c) (w.drew.alloc (.cells (old++new++rest).toArray T))) →
   qP P (Builtin.append_ #[t,t] ty #[.slice a len cap,x]) K w:=by
  intro old h63 hb hc hold hK
  have hfit:=growslice_fits hc hb
  have h63':len+n≤9223372036854775807:=by simp only [maxLen] at h63;omega
  have hxr':(Builtin.firstCells i.size n x).run P w.drew=.ok new.toArray w.drew:=(M9 (P:=P) (w:=w.drew) (x:=x) hsrc).elim fun _ h=>h.elim fun _ h=>h.2.1
  refine⟨_,_,?_,hK ((Question.appendCap (len+n) cap e).cut (w.tape w.drawn (.appendCap (len+n) cap e))) (Builtin.zeroCells z.cells ((Question.appendCap (len+n) cap e).cut (w.tape w.drawn (.appendCap (len+n) cap e))-(len+n))).toList e ?_ ?_ ?_⟩
  ·have hc0:¬len+n≤cap:=by omega
   have hc1:¬(((len+n:Nat):Int) > IntKind.i64.max∧(False∨i.bytes=0)):=by
    intro hh
    have:IntKind.i64.max=9223372036854775807:=rfl
    omega
   have hc2:¬Builtin.nextslicecap (len+n) cap*i.bytes > 2 ^ 48:=by
    have:(2:Nat) ^ 48=281474976710656:=by decide
    omega
   simp only [Builtin.append_,List.getElem?_toArray,List.getElem?_cons_zero,List.getElem?_cons_succ,Sem.run_bind,bo w ht,Result.andThen_ok,ff w hi,Sem.run_pure,Bool.false_eq_true,if_false,hxl,if_neg hc0,
    jO w hi,Bool.not_false,if_true]
   rw [if_neg hc1]
   simp only [Sem.run_bind,jO w hi,Result.andThen_ok,if_neg hc2]
   have hch:(choose (Question.appendCap (len+n) cap e)).run P w=.ok ((Question.appendCap (len+n) cap e).cut (w.tape w.drawn (.appendCap (len+n) cap e))) w.drew:=by
    rw [run_choose_drew];rfl
   simp only [hch,Result.andThen_ok,jO w.drew hi,run_askRoom,hold,hxr',i9 w.drew hi hz,nm,Sem.run_pure]
   congr 3
   apply Array.toList_inj.1
   simp
  ·simp only [Question.cut];omega
  ·simp only [Question.cut,maxLen]
   have:=Nat.mod_lt (w.tape w.drawn (.appendCap (len+n) cap e)) (show 0<2 ^ 63-(len+n) by omega)
   omega
  ·rw [CI,hs]
 split at h
 ·obtain⟨rfl,rfl,h2,h3,h4,h5⟩:=h
  rcases Nat.eq_zero_or_pos n with rfl | hn
  ·have hnew:new=[]:=List.eq_nil_of_length_eq_zero (by simpa using hnl)
   refine⟨_,w,?_,h4 rfl⟩
   simp only [Builtin.append_,List.getElem?_toArray,List.getElem?_cons_zero,List.getElem?_cons_succ,Sem.run_bind,bo w ht,Result.andThen_ok,ff w hi,Sem.run_pure,Bool.false_eq_true,if_false,hxl,
    Bool.not_false,if_true,Nat.add_zero,Nat.le_refl,hxr]
  ·refine grow [] (by omega) (by simpa using h2) (by omega) (by simp [Builtin.firstCells]) ?_
   simpa using h5 hn
 ·rename_i b o
  split at h <;> try exact h.elim
  rename_i cs hm
  obtain⟨h1,h2,h3,h4,h5,h6⟩:=h
  have hlc:len*i.size≤cap*i.size:=Nat.mul_le_mul_right _ h2
  rcases Nat.lt_or_ge cap (len+n) with hc | hc
  ·exact grow _ h4 h3 hc (wZ (w:=w.drew) (by simpa using hm) (by omega)) (h6 hc)
  ·obtain⟨h7,h8,h9⟩:=h5 hc
   refine⟨_,_,?_,h9⟩
   have hle:(len+n)*i.size≤cap*i.size:=Nat.mul_le_mul_right _ hc
   rw [Nat.add_mul] at hle
   have hst:(storeCells (⟨b,o+len*i.size,none⟩:Addr) new).run P w=.ok () (put w b (Cq cs (o+len*i.size) new)):=by
    rcases h7 with rfl | h7
    ·have hnew:new=[]:=List.eq_nil_of_length_eq_zero (by simpa using hnl)
     subst hnew
     simp [storeCells,Cq,Bg hm]
    ·have:=qK (P:=P) new cs w (o+len*i.size) 0 hm h7 h8 (by omega)
     simpa using this
   simp only [Builtin.append_,List.getElem?_toArray,List.getElem?_cons_zero,List.getElem?_cons_succ,Sem.run_bind,bo w ht,Result.andThen_ok,ff w hi,Sem.run_pure,Bool.false_eq_true,if_false,hxl,
    Bool.not_false,if_true,if_pos hc,hxr,pf,hst]
 ·exact h.elim
end
end Go.Proofs.YtoealglbimbbmaaGreatDoor.S
