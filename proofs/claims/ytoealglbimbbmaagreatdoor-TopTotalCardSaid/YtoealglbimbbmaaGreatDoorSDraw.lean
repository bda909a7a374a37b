import Derived.Calls
import Derived.Tactics
import Derived.Orders
import Derived.Below
import Derived.Laws.Bits
import Derived.WalkKit
import Derived.OrdersHeld
set_option linter.defProp false
set_option linter.unusedVariables false
set_option linter.unusedSimpArgs false
namespace Go.Proofs.YtoealglbimbbmaaGreatDoor.S
open Go
def dg:=@List.getElem?_eq_getElem
def ge:=@List.getD_eq_getElem?_getD
def gg:=@List.length_singleton
def gr:=@List.mem_cons_of_mem
def Fn:=@List.cons_append
def GE:=@Bool.and_eq_true
def GT:=@List.nil_append
def LE:=@List.length_append
def LT:=@Nat.le_refl
def Nm:=@List.getElem?_eq_some_iff
def Ok:=@List.mem_of_getElem?
def Or:=@Bool.false_eq_true
def zaa:=@List.mem_cons
def zab:=@Int.le_refl
def zac:=@BEq.rfl
def zad:=@List.length_cons
def zae:=@List.getElem_mem
def zaf:=@List.mem_singleton
def zag:=@Nat.zero_le
def zah:=@List.eq_nil_of_length_eq_zero
def zai:=@List.getElem?_set_ne
def zaj:=@List.map_cons
def zak:=@List.mem_append_right
def zal:=@List.map_append
def zam:=@List.mem_append_left
def zan:=@Array.toList_inj
def zao:=@List.mem_cons_self
def zap:=@List.getElem?_set_self
def zaq:=@List.length_map
def zar:=@List.mem_append
def zat:=@List.take_of_length_le
def zau:=@List.mem_map
def zav:=@List.drop_eq_getElem_cons
def zaw:=@Bool.or_eq_true
def zax:=@List.getElem?_map
def zay:=@Option.some.injEq
def zaz:=@List.take_succ_eq_append_getElem
def zaA:=@Nat.eq_of_beq_eq_true
def zaB:=@List.drop_eq_nil_of_le
def zaC:=@List.length_take
def zaD:=@List.mem_filter
def zaE:=@Nat.lt_or_ge
def zaF:=@Bool.eq_iff_iff
def zaG:=@List.append_assoc
def zaH:=@Bool.not_eq_true'
def zaI:=@List.pairwise_cons
def zaJ:=@Array.getD_eq_getD_getElem?
def zaK:=@Int.eq_ofNat_of_zero_le
def zaL:=@List.map_nil
def zaM:=@List.all_eq_true
def zaN:=@List.reverse_cons
def zaO:=@List.flatMap_cons
def zaP:=@List.getElem?_replicate
def zaQ:=@Array.getElem?_eq_some_iff
def zaR:=@List.getElem?_append_right
def zaS:=@Nat.zero_add
def zaT:=@List.pairwise_iff_getElem
def zaU:=@List.getElem_of_mem
def zaV:=@List.take_add_one
def zaW:=@List.getElem?_eq_none
def zaX:=@Array.getElem?_modify
def zaY:=@Int.le_trans
def zaZ:=@List.length_set
def za0:=@Option.map_eq_some_iff
def za1:=@Int.mul_add
def za2:=@List.mem_or_eq_of_mem_set
def za3:=@Nat.le_of_ble_eq_true
def za4:=@List.take_append_of_le_length
def za5:=@Nat.le_trans
def za6:=@Bool.true_and
def za7:=@List.length_reverse
def za8:=@Nat.sub_self
def za9:=@Nat.add_mul
def zba:=@Bool.false_or
def zbb:=@List.take_append_drop
def zbd:=@Bool.beq_eq_decide_eq
def zbe:=@Array.getElem?_eq_getElem
def zbf:=@Nat.mul_le_mul_right
def zbg:=@List.flatMap_append
def zbh:=@List.getElem?_take
def zbi:=@And.right
def zbj:=@Bool.not_true
def zbk:=@List.ext_getElem?
def zbl:=@List.nodup_append
def zbm:=@List.getElem?_append_left
def zbn:=@List.mapM_cons
def zbo:=@List.replicate_succ
def zbp:=@List.filter_cons_of_pos
def zbq:=@List.filter_cons_of_neg
def zbr:=@Ne.symm
def zbs:=@Nat.lt_of_lt_of_le
def zbt:=@Int.tmod_lt_of_pos
def zbu:=@Int.tmod_nonneg
def zbv:=@List.foldl_cons
def zbw:=@List.append_nil
def zbx:=@And.left
def zby:=@Int.mul_le_mul_of_nonneg_left
def zbz:=@List.mem_range
def zbA:=@Bool.not_false
def zbB:=@List.drop_drop
def zbC:=@List.getElem?_toArray
def zbD:=@List.length_replicate
def zbE:=@List.set_append_right
def zbF:=@Option.getD_some
def zbG:=@List.length_drop
def zbH:=@List.take_length
def zbI:=@Array.size_replicate
def zbJ:=@Array.getElem?_push
def zbK:=@List.cons.injEq
def zbL:=@List.getElem?_eq_none_iff
def zbM:=@Nat.add_zero
def zbN:=@Array.ext_getElem?
def zbO:=@List.set_cons_zero
def zbP:=@Int.sub_zero
def zbQ:=@Bool.false_and
def zbR:=@Nat.testBit_or
def zbS:=@Int.mul_nonneg
def zbT:=@Nat.add_sub_cancel_left
def zbU:=@List.length_eq_zero_iff
def zbV:=@List.eraseIdx_append_of_length_le
def zbW:=@List.length_eq_one_iff
def zbX:=@Bool.or_false
def zbY:=@Bool.and_true
def zbZ:=@List.ext_getElem
def zb0:=@List.length_filter_le
def zb1:=@List.eq_nil_or_concat
def zb2:=@List.concat_eq_append
def zb3:=@Array.getElem?_setIfInBounds_ne
def zb4:=@Bool.or_eq_false_iff
def zb5:=@List.mem_of_mem_tail
def zb6:=@Bool.true_or
def zb7:=@List.mem_of_mem_take
def zb8:=@Nat.testBit_two_pow
def zb9:=@Bool.and_false
def zca:=@List.getElem?_drop
def zcb:=@Bool.and_self
def zcc:=@List.size_toArray
def zcd:=@Bool.eq_false_iff
def zce:=@Array.mapM_eq_mapM_toList
def zcf:=@Decidable.imp_iff_not_or
def zcg:=@List.length_erase_of_mem
def zch:=@Nat.sub_zero
def zci:=@Nat.beq_refl
def zcj:=@Array.getElem?_replicate
def zck:=@Array.toList_map
def zcl:=@List.suffix_refl
def zcm:=@Bool.or_true
def zcn:=@Bool.or_self
def zco:=@List.eq_of_mem_replicate
def zcp:=@Option.bind_eq_some_iff
def zcq:=@List.nodup_cons
def zcr:=@List.pairwise_lt_range
def zcs:=@List.map_eq_append_iff
def zct:=@Array.getElem?_eq_none
def zcu:=@Array.getElem?_append
def zcw:=@List.drop_zero
def zcx:=@List.length_mergeSort
def zcy:=@List.contains_iff_mem
def zcz:=@List.tail_cons
def zcA:=@List.Pairwise.filter
def zcB:=@List.map_eq_cons_iff
def zcC:=@List.getLast?_append
def zcD:=@List.replicate_succ'
def zcE:=@Nat.add_assoc
def zcF:=@List.mem_map_of_mem
def zcG:=@List.take_succ_cons
def zcH:=@List.getElem?_range
def zcI:=@Int.emod_lt_of_pos
def zcJ:=@List.filter_append
def zcK:=@Array.any_eq_true'
def zcL:=@Nat.eq_zero_or_pos
def zcM:=@Int.mul_zero
def zcN:=@List.map_set
def zcO:=@List.map_singleton
def zo {p:Prop}(h:p:=by omega):p:=h
def zd {p:Prop}(h:p:=by decide):p:=h
def zs {p:Prop}(h:p:=by simp):p:=h
def zn {c:Prop}{i:Decidable c}{α:Sort _}{t e:α}(h:¬c:=by omega):ite c t e=e:=if_neg h
def zp {c:Prop}{i:Decidable c}{α:Sort _}{t e:α}(h:c:=by omega):ite c t e=t:=if_pos h
abbrev nth {α:Type}:List α->Nat->Option α
 | [],_=>none
 |a::_,0=>some a
 |_::l,n+1=>nth l n
def xm {α:Type}:∀(l:List α)(n:Nat),nth l n=l[n]?
 | [],n=>by simp[nth]
 |a::l,0=>by simp[nth]
 |a::l,n+1=>by simp[nth,xm l n]
def LX {α:Type}:List α->Nat->List α->List α
 |cs,_,[]=>cs
 |cs,o,v::vs=>LX (cs.set o v) (o+1) vs
@[simp] theorem YN {α:Type}:∀(vs cs:List α) (o:Nat),(LX cs o vs).length=cs.length
 | [],cs,o=>rfl
 |v::vs,cs,o=>by simp[LX,YN vs]
theorem xu {α:Type}:∀(vs cs:List α)(o:Nat),o+vs.length<=cs.length->LX cs o vs=cs.take o++vs++cs.drop (o+vs.length)
 | [],cs,o,_=>by simp[LX]
 |v::vs,cs,o,h=>by
  simp only[zad]at h
  have h1:(cs.set o v).take (o+1)=cs.take o++[v]:=by
   rw[zaV,List.take_set_of_le (LT o)]
   simp[show o<cs.length by omega]
  have a:(cs.set o v).drop (o+1+vs.length)=cs.drop (o+1+vs.length):=List.drop_set_of_lt zo
  rw[LX,xu vs (cs.set o v) (o+1) (by simp;omega),h1,a,zad,show o+(vs.length+1)=o+1+vs.length by omega]
  simp
def one:Value->Bool
 | .agg _ | .tuple _=>false
 |_=>true
def mem (w:World)(b:Nat):Option (List Value) :=
 match w.heap[b]? with
 |some (.cells c _ _)=>some c.toList
 |_=>none
abbrev aks:True:=by have:=@mem.match_1.congr_eq_1.{0};trivial
def opn (w:World)(b:Nat):Bool :=
 match w.heap[b]? with
 |some (.cells _ _ z)=>z.1 == 0&&z.2 == 0
 |_=>false
def put (w:World)(b:Nat)(cs:List Value):World :=
 { w with heap:=w.heap.modify b fun
   | .cells _ T z=>.cells cs.toArray T z
   |o=>o }
def Tg (w:World)(b i:Nat):w.cell? ⟨b,i,none⟩=(mem w b).bind (·[i]?):=by
 unfold World.cell? mem
 split<;>simp_all
def ry {w:World}{b i:Nat}{cs:List Value}(h:mem w b=some cs):w.cell? ⟨b,i,none⟩=cs[i]?:=by
 rw[Tg,h];rfl
def Yz {w:World}{b i:Nat}(h:opn w b=true):w.frozen? ⟨b,i,none⟩=false:=by
 unfold opn at h
 unfold World.frozen?
 split<;>rename_i a<;>simp[a]at h ⊢
 intro _;omega
theorem Ci {w:World}{b:Nat}{cs:List Value}(h:mem w b=some cs):b<w.heap.size:=by
 unfold mem at h
 rcases zaE b w.heap.size with a|a
 ·exact a
 ·simp[zct a]at h
def VZ {w:World}{b i:Nat}{cs:List Value}(v:Value)(h:mem w b=some cs):w.setCell ⟨b,i,none⟩ v=put w b (cs.set i v):=by
 unfold World.setCell put
 congr 1
 apply zbN
 intro j
 simp only[zaX]
 split
 ·rename_i hj;subst hj
  unfold mem at h
  cases a:w.heap[b]? with
  |none=>simp
  |some o =>
   rw[a]at h
   cases o with
   |cells c T z=>simp at h;subst h;simp;apply zan.1;simp
   |_=>simp at h
 ·rfl
@[simp] theorem ajS (w:World) (b:Nat) (cs:List Value):(put w b cs).heap.size=w.heap.size:=by simp[put]
def U1 (w:World)(b b':Nat)(cs:List Value):mem (put w b cs) b'=if b'=b then(mem w b).map (λ_=>cs)else mem w b':=by
 unfold mem put
 simp only[zaX]
 by_cases h:b=b'
 ·subst h
  simp only[if_true]
  cases w.heap[b]? with
  |none=>simp
  |some o=>cases o<;>simp
 ·rw[zn h,zn (λe=>h e.symm)]
def Uz (w:World)(b b':Nat)(cs:List Value):opn (put w b cs) b'=opn w b':=by
 unfold opn put
 simp only[zaX]
 by_cases h:b=b'
 ·subst h
  cases w.heap[b]? with
  |none=>simp
  |some o=>cases o<;>simp
 ·rw[zn h]
def I7 {w:World}{b:Nat}{cs:List Value}(h:mem w b=some cs):put w b cs=w:=by
 cases w;unfold put mem at *
 simp only[World.mk.injEq,and_true]at *
 apply zbN
 intro j
 simp only[zaX]
 split
 ·rename_i hj;subst hj
  rename_i a _ _ _ _
  cases c:a[b]? with
  |none=>rfl
  |some o =>
   simp only[c]at h
   cases o<;>simp at h ⊢
   subst h;simp
 ·rfl
def T6 (w:World)(b:Nat)(cs ds:List Value):put (put w b cs) b ds=put w b ds:=by
 unfold put
 congr 1
 apply zbN
 intro j
 simp only[zaX]
 split
 ·cases w.heap[j]? with
  |none=>rfl
  |some o=>cases o<;>rfl
 ·rfl
def R4 (w:World)(c:Array Value)(T:TypeId)(z:Nat×Nat)(b:Nat):mem (w.alloc (.cells c T z)) b=if b=w.heap.size then some c.toList else mem w b:=by
 unfold mem
 show(match(w.heap.push _)[b]? with|some (.cells c _ _)=>some c.toList|_=>none)=_
 rw[zbJ]
 by_cases a:b=w.heap.size
 ·rw[zp a,zp a]
 ·rw[zn a,zn a]
def Sh (w:World)(c:Array Value)(T:TypeId)(b:Nat):opn (w.alloc (.cells c T)) b=if b=w.heap.size then true else opn w b:=by
 unfold opn
 show(match(w.heap.push _)[b]? with|some (.cells _ _ z)=>z.1 == 0&&z.2 == 0|_=>false)=_
 rw[zbJ]
 by_cases a:b=w.heap.size
 ·rw[zp a,zp a];rfl
 ·rw[zn a,zn a]
@[simp] theorem aij (w:World) (o:Obj):(w.alloc o).heap.size=w.heap.size+1:=by
 show(w.heap.push o).size=_
 simp
@[simp] theorem ajw (w:World) (b:Nat):mem w.drew b=mem w b:=rfl
@[simp] theorem aiU (w:World) (b:Nat):opn w.drew b=opn w b:=rfl
@[simp] theorem aiM (w:World):w.drew.heap.size=w.heap.size:=rfl
section
variable {P:Program}
def SK {w:World}{b i:Nat}{cs:List Value}{v:Value}(h:mem w b=some cs)(hi:cs[i]? = some v):(load ⟨b,i,none⟩).run P w=.ok v w:=by
 simp[run_load,ry h,hi]
def vi (b i n:Nat):(⟨b,i,none⟩:Addr).add n=⟨b,i+n,none⟩:=by
 unfold Addr.add
 split<;>simp_all
def zF {w:World}{b:Nat}{cs:List Value}(h:mem w b=some cs):∀(n o i:Nat)(acc:Array Value),o+i+n<=cs.length ->
  (loadCellsFrom ⟨b,o,none⟩ i n acc).run P w=.ok (acc++((cs.drop (o+i)).take n).toArray) w
 |0,o,i,acc,_=>by simp[loadCellsFrom]
 |n+1,o,i,acc,hn=>by
  have hi:cs[o+i]? = some cs[o+i]:=dg zo
  simp only[loadCellsFrom,Sem.run_bind,vi,SK h hi,Result.andThen_ok]
  rw[zF h n o (i+1) _ zo]
  congr 1
  rw[show o+(i+1)=o+i+1 by omega]
  apply zan.1
  simp only[Array.toList_append,Array.toList_push,zaG]
  congr 1
  rw[zav (by omega:o+i<cs.length),zcG]
  simp
def Ac {w:World}{b o n:Nat}{cs:List Value}(h:mem w b=some cs)(a:o+n<=cs.length) :
  (loadCells ⟨b,o,none⟩ n).run P w=.ok ((cs.drop o).take n).toArray w:=by
 unfold loadCells
 rw[zF h n o 0 #[] zo]
 simp
def YH {w:World}{b i:Nat}{cs:List Value}{v:Value}(h:mem w b=some cs)(e:opn w b=true)(d:one v=true)(hi:i<cs.length) :
  (store ⟨b,i,none⟩ v).run P w=.ok () (put w b (cs.set i v)):=by
 have c:w.cell? ⟨b,i,none⟩=some cs[i]:=by rw[ry h];exact dg hi
 have a:=Yz (i:=i) e
 cases v<;>simp[one]at d<;>simp[store,Sem.run,c,a,VZ _ h]
def ye {b:Nat}:∀(vs cs:List Value)(w:World)(o i:Nat),mem w b=some cs->opn w b=true->(∀v∈vs,one v=true)->o+i+vs.length<=cs.length ->
  (storeCells ⟨b,o,none⟩ vs i).run P w=.ok () (put w b (LX cs (o+i) vs))
 | [],cs,w,o,i,h,_,_,_=>by simp[storeCells,LX,I7 h]
 |v::vs,cs,w,o,i,h,ho,hv,hn=>by
  simp only[zad]at hn
  simp only[storeCells,Sem.run_bind,vi]
  rw[YH h ho (hv v zs) zo]
  simp only[Result.andThen_ok]
  rw[ye vs (cs.set (o+i) v) _ o (i+1) (by simp[U1,h]) (by rw[Uz];exact ho) (λu hu=>hv u (by simp[hu])) (by simp;omega),T6]
  rfl
def cu {t:TypeId}{d:TypeDesc}(w:World)(h:P.underlying t=some d):(underlying t).run P w=.ok d w:=by
 simp[underlying,program,Sem.run,h]
def oI {t:TypeId}{i:TypeInfo}(w:World)(h:P.info? t=some i):(typeInfo t).run P w=.ok i w:=by
 simp[typeInfo,program,Sem.run,h]
def jl {t:TypeId}{i:TypeInfo}(w:World)(h:P.info? t=some i):(sizeOf t).run P w=.ok i.size w:=by
 simp[sizeOf,oI w h]
def nB {t:TypeId}{i:TypeInfo}{z:Value}(w:World)(h:P.info? t=some i)(a:i.zero=some z):(zeroValue t).run P w=.ok z w:=by
 simp[zeroValue,oI w h,a]
abbrev ri:TypeDesc->Bool
 | .struct _ | .array _ _=>true
 |_=>false
def te {t:TypeId}{d:TypeDesc}(w:World)(h:P.underlying t=some d):(isAgg t).run P w=.ok (ri d) w:=by
 simp only[isAgg,Sem.run_bind,cu w h,Result.andThen_ok]
 cases d<;>rfl
def tt (w:World)(e:TypeId)(c:Array Value):(newRow e c).run P w=.ok ⟨w.heap.size,0,none⟩ (w.alloc (.cells c e)):=by
 simp only[newRow,Sem.run_bind]
 rfl
end
end Go.Proofs.YtoealglbimbbmaaGreatDoor.S
namespace Go.Proofs.YtoealglbimbbmaaGreatDoor.S
open Go
abbrev KV:=Value->World->Prop
abbrev ld (l:List UInt8):Value:=.string ⟨l.toArray⟩
def nf (c a b:Value)(K:KV)(w:World):Prop:=match c with | .bool t=>K (if t then a else b) w|_=>False
def rN (x:Value)(K:KV)(w:World):Prop:=match x with | .bool t=>K (.bool (!t)) w|_=>False
def tq (t:Nat)(x:Value)(K:KV)(w:World):Prop:=K (.iface t x) w
def AF (k:IntKind)(x:Value)(K:KV)(w:World):Prop:=match x with | .int _ n=>K (.int k (k.wrap n)) w|_=>False
def pm (op:BinOp)(k:IntKind)(a b:Int):Option Value :=
 match op with
 | .add=>some (.int k (k.wrap (a+b)))
 | .sub=>some (.int k (k.wrap (a-b)))
 | .mul=>some (.int k (k.wrap (a*b)))
 | .quo=>if b=0 then none else some (.int k (k.wrap (a.tdiv b)))
 | .rem=>if b=0 then none else some (.int k (a.tmod b))
 | .and=>some (.int k (k.wrap (BitVec.ofInt k.bits a &&& BitVec.ofInt k.bits b).toNat))
 | .or=>some (.int k (k.wrap (BitVec.ofInt k.bits a ||| BitVec.ofInt k.bits b).toNat))
 | .xor=>some (.int k (k.wrap (BitVec.ofInt k.bits a ^^^ BitVec.ofInt k.bits b).toNat))
 | .eql=>some (.bool (a == b))
 | .neq=>some (.bool (a != b))
 | .lss=>some (.bool (a<b))
 | .leq=>some (.bool (a<=b))
 | .gtr=>some (.bool (a > b))
 | .geq=>some (.bool (a≥b))
 |_=>none
def gm (o:Option Value)(K:KV)(w:World):Prop:=match o with|some v=>K v w|none=>False
def ap (op:BinOp)(x y:Value)(K:KV)(w:World):Prop :=
 match x,y with
 | .int k a,.int k' b =>
  match op with
  | .shl=>0<=b/\K (.int k (k.wrap (a*2 ^ min b.toNat k.bits))) w
  | .shr=>0<=b/\K (.int k (a.fdiv (2 ^ min b.toNat k.bits))) w
  |op=>k=k'/\gm (pm op k a b) K w
 |_,_=>False
def Qw (op:BinOp)(t:Bool)(K:KV)(w:World):Prop:=match op with | .eql=>K (.bool t) w | .neq=>K (.bool (!t)) w|_=>False
def jE (op:BinOp)(x y:Value)(K:KV)(w:World):Prop:=match x,y with | .bool a,.bool b=>Qw op (a == b) K w|_,_=>False
def iV (op:BinOp)(x y:Value)(K:KV)(w:World):Prop :=
 match x,y with
 | .pointer none,.pointer b=>Qw op b.isNone K w
 | .pointer (some _),.pointer none=>Qw op false K w
 |_,_=>False
def yu (op:BinOp)(x y:Value)(K:KV)(w:World):Prop:=match x,y with | .string a,.string b=>Qw op (a.toList == b.toList) K w|_,_=>False
def BK (x:Value)(lo hi:Option Value)(K:KV)(w:World):Prop:=match x,lo,hi with
 | .string s,some (.int _ a),some (.int _ b)=>0<=a/\a<=b/\b<=s.size/\K (.string (s.extract a.toNat b.toNat)) w
 |_,_,_=>False
def tJ (t:Nat)(z x:Value)(K:KV)(w:World):Prop:=match x with | .iface t' v=>K (if t'=t then .tuple #[v,.bool true]else .tuple #[z,.bool false]) w|_=>False
def Ti:World->Prop:=λ_=>False
def kR (op:BinOp)(x y:Value)(K:KV)(w:World):Prop :=
 match x,y with
 | .slice none _ _,.slice b _ _=>Qw op b.isNone K w
 | .slice (some _) _ _,.slice none _ _=>Qw op false K w
 |_,_=>False
inductive CK where
 |b
 |i (k:IntKind)
 deriving DecidableEq
def lH:List CK->List Value->Prop
 | [],[]=>True
 | .b::ks,.bool _::vs=>lH ks vs
 | .i k::ks,.int k' _::vs=>k=k'/\lH ks vs
 |_,_=>False
def jw:List Value->List Value->Bool
 | [],[]=>true
 | .bool a::xs,.bool b::ys=>a == b&&jw xs ys
 | .int _ a::xs,.int _ b::ys=>a == b&&jw xs ys
 |_,_=>false
def nJ (ks:List CK)(op:BinOp)(x y:Value)(K:KV)(w:World):Prop :=
 match x,y with
 | .agg xs,.agg ys=>lH ks xs.toList/\lH ks ys.toList/\Qw op (jw xs.toList ys.toList) K w
 |_,_=>False
def ad (a:Value)(K:KV)(w:World):Prop :=
 match a with
 | .pointer (some ⟨b,i,none⟩)=>match mem w b with
  |some cs=>gm cs[i]? K w
  |none=>False
 |_=>False
def br (n:Nat)(a:Value)(K:KV)(w:World):Prop :=
 match a with
 | .pointer (some ⟨b,o,none⟩)=>match mem w b with
  |some cs=>o+n<=cs.length/\K (.agg ((cs.drop o).take n).toArray) w
  |none=>False
 |_=>False
def fh (n:Nat)(a v:Value)(K:KV)(w:World):Prop :=
 match a with
 | .pointer (some ⟨b,o,none⟩)=>match mem w b with
  |some cs=>v.cells.size=n/\(∀u∈v.cells.toList,one u=true)/\opn w b=true/\o+n<=cs.length/\K undef (put w b (LX cs o v.cells.toList))
  |none=>False
 |_=>False
def mX (cells:Array Value)(K:KV)(w:World):Prop:=∀T,K (.pointer (some ⟨w.heap.size,0,none⟩)) (w.alloc (.cells cells T))
def j9 (n:Nat)(x:Value)(K:KV)(w:World):Prop:=match x with | .pointer (some ⟨b,i,none⟩)=>K (.pointer (some ⟨b,i+n,none⟩)) w|_=>False
def qH (sz:Nat)(x ix:Value)(K:KV)(w:World):Prop :=
 match x,ix with
 | .slice (some ⟨b,o,none⟩) len _,.int _ i=>0<=i/\i<len/\K (.pointer (some ⟨b,o+i.toNat*sz,none⟩)) w
 |_,_=>False
def nM (len sz:Nat)(x ix:Value)(K:KV)(w:World):Prop :=
 match x,ix with
 | .pointer (some ⟨b,o,none⟩),.int _ i=>0<=i/\i<len/\K (.pointer (some ⟨b,o+i.toNat*sz,none⟩)) w
 |_,_=>False
def uj (isAgg:Bool)(off size:Nat)(x:Value)(K:KV)(w:World):Prop :=
 match x with
 | .agg cs=>if isAgg then K (.agg (cs.extract off (off+size))) w else gm cs[off]? K w
 |_=>False
def ib (i:Nat)(x:Value)(K:KV)(w:World):Prop:=match x with | .tuple vs=>gm vs[i]? K w|_=>False
def fu (x:Value)(K:KV)(w:World):Prop:=match x with | .slice _ n _=>K (.int .i64 n) w|_=>False
def aab:Value->Value->Option Value
 | .int k x,.int _ y=>some (.int k (if y > x then y else x))
 |_,_=>none
def V4:Value->Value->Option Value
 | .int k x,.int _ y=>some (.int k (if y<x then y else x))
 |_,_=>none
def Jq (f:Value->Value->Option Value):Value->List Value->Option Value
 |x,[]=>some x
 |x,y::l=>match f x y with|some z=>Jq f z l|none=>none
def rQ (x:Value)(l:List Value)(K:KV)(w:World):Prop:=gm (Jq aab x l) K w
def mA (x:Value)(l:List Value)(K:KV)(w:World):Prop:=gm (Jq V4 x l) K w
def ji (x:Value)(K:KV)(w:World):Prop:=match x with | .pointer (some _)=>K x w | .func (.func _) _ _=>K x w|_=>False
def xo (zero:List Value):List (Nat×Nat×Value)->Option (List Value)
 | []=>some zero
 |(o,n,v)::r=>if v.cells.size=n/\o+n<=zero.length then xo (LX zero o v.cells.toList) r else none
def iz (zero:List Value)(parts:List (Nat×Nat×Value))(K:KV)(w:World):Prop:=match xo zero parts with|some cs=>K (.agg cs.toArray) w|none=>False
def wG (n:Nat)(zero:List Value):List Value:=(List.replicate n zero).flatten
def ck (zero:List Value)(len:Nat)(parts:List (Nat×Nat×Value))(K:KV)(w:World):Prop :=
 len*zero.length<=16777216 /\
 match xo (wG len zero) parts with
 |some cs=>∀T,K (.slice (some ⟨w.heap.size,0,none⟩) len len) (w.alloc (.cells cs.toArray T))
 |none=>False
def gA (bytes:Nat)(zero:List Value)(len cap:Value)(K:KV)(w:World):Prop :=
 match len,cap with
 | .int _ l,.int _ c=>0<=l/\l<=c/\c<=maxLen/\bytes*c<=140737488355328/\∀T,K (.slice (some ⟨w.heap.size,0,none⟩) l.toNat c.toNat) (w.alloc (.cells (wG c.toNat zero).toArray T))
 |_,_=>False
def Ka (o:Option Value)(d:Nat):Option Int:=match o with|none=>some d|some (.int _ n)=>some n|some _=>none
def p9 (sz:Nat)(x:Value)(lo hi:Option Value)(K:KV)(w:World):Prop :=
 match x with
 | .slice a len cap=>match Ka lo 0,Ka hi len with
  |some l,some h=>0<=l/\l<=h/\h<=cap/\K (.slice (if cap=l.toNat then a else a.map (·.add (l.toNat*sz))) (h.toNat-l.toNat) (cap-l.toNat)) w
  |_,_=>False
 |_=>False
def yv (sz:Nat)(x:Value)(w:World):Option (Nat×List Value) :=
 match x with
 | .slice none n _=>if n=0 then some (0,[])else none
 | .slice (some a) n _=>if n=0 then some (0,[])else match a with
  |⟨b,o,none⟩=>match mem w b with
   |some cs=>if o+n*sz<=cs.length then some (n,(cs.drop o).take (n*sz))else none
   |none=>none
  |_=>none
 |_=>none
def fj (sz bytes:Nat)(s x:Value)(K:KV)(w:World):Prop :=
 match s,yv sz x w with
 | .slice a len cap,some (n,new) =>
  match a with
  |none=>len=0/\cap=0/\n*bytes<=140737488355328/\n<=maxLen /\
   (n=0->K (.slice none 0 0) w) /\
   (0<n->∀(c:Nat) (rest:List Value) T,n<=c->c<=maxLen->rest.length=(c-n)*sz->K (.slice (some ⟨w.heap.size,0,none⟩) n c) (w.drew.alloc (.cells (new++rest).toArray T)))
  |some ⟨b,o,none⟩=>match mem w b with
   |some cs=>o+cap*sz<=cs.length/\len<=cap/\(len+n)*bytes<=140737488355328/\len+n<=maxLen /\
    (len+n<=cap->(n=0\/opn w b=true)/\(∀u∈new,one u=true)/\K (.slice (some ⟨b,o,none⟩) (len+n) cap) (put w b (LX cs (o+len*sz) new))) /\
    (cap<len+n->∀(c:Nat) (rest:List Value) T,len+n<=c->c<=maxLen->rest.length=(c-(len+n))*sz ->
     K (.slice (some ⟨w.heap.size,0,none⟩) (len+n) c) (w.drew.alloc (.cells ((cs.drop o).take (len*sz)++new++rest).toArray T)))
   |none=>False
  |_=>False
 |_,_=>False
def aw (J:World->Prop)(B:(World->Prop)->World->Prop):World->Prop:=B J
def cr (J:Value->World->Prop)(B:(Value->World->Prop)->World->Prop):World->Prop:=B J
def xz (J:Value->Value->World->Prop)(B:(Value->Value->World->Prop)->World->Prop):World->Prop:=B J
def aiJ (J:Value->Value->Value->World->Prop)(B:(Value->Value->Value->World->Prop)->World->Prop):World->Prop:=B J
end Go.Proofs.YtoealglbimbbmaaGreatDoor.S
namespace Go.Proofs.YtoealglbimbbmaaGreatDoor.S
open Go
def xl (P:Program)(s:Sem Value)(K:KV)(w:World):Prop:=∃v w',s.run P w=.ok v w'/\K v w'
section
variable {P:Program}{K:KV}{w:World}
def aaV {t:TypeId}{d:TypeDesc}{a:Value}(hd:P.underlying t=some d)(g:ri d=false)(h:ad a K w):xl P (Instr.loadAt t a) K w:=by
 unfold ad at h
 split at h<;>try exact h.elim
 split at h<;>try exact h.elim
 rename_i b i f e
 unfold gm at h
 split at h<;>try exact h.elim
 rename_i v c
 exact⟨v,w,by simp[Instr.loadAt,Instr.sureAddr,loadVar,te w hd,g,ry e,c],h⟩
def aa8 {t:TypeId}{d:TypeDesc}{i:TypeInfo}{a:Value}(hd:P.underlying t=some d)(hi:P.info? t=some i)(f:ri d=true)(h:br i.size a K w):xl P (Instr.loadAt t a) K w:=by
 unfold br at h
 split at h<;>try exact h.elim
 split at h<;>try exact h.elim
 rename_i b o e c
 exact⟨_,w,by simp[Instr.loadAt,Instr.sureAddr,loadVar,te w hd,f,jl w hi,Ac c h.1],h.2⟩
def ab5 {t:TypeId}{i:TypeInfo}{a v:Value}(hi:P.info? t=some i)(h:fh i.size a v K w):∃w',(Instr.storeAt t a v).run P w=.ok () w'/\K undef w':=by
 unfold fh at h
 split at h<;>try exact h.elim
 rename_i b o
 split at h<;>try exact h.elim
 rename_i c j
 obtain⟨e,f,d,k,g⟩:=h
 refine⟨_,?_,g⟩
 have:=ye (P:=P) v.cells.toList c w o 0 j d f (by simp;omega)
 simp only[zbM]at this
 simp[Instr.storeAt,Instr.sureAddr,storeVar,jl w hi,e,this]
def Ze {t:TypeId}{c:Array Value}(h:mX c K w):xl P (do pure (.pointer (some (<-newRow t c)))) K w :=
 ⟨_,_,by simp only[Sem.run_bind,tt,Result.andThen_ok,Sem.run_pure],h t⟩
def Rp {s:TypeId}{d:Array Field}{f:Nat}{c:Field}{i:TypeInfo}{x:Value}(b:P.underlying s=some (.struct d))(a:d[f]? = some c)(hi:P.info? c.type=some i)
  (h0:i.size≠0) (h:j9 c.offset x K w):xl P (Instr.fieldAt s x f) K w:=by
 unfold j9 at h
 split at h<;>try exact h.elim
 exact⟨_,w,by simp[Instr.fieldAt,cu w b,a,Instr.sureAddr,fieldPlace,jl w hi,h0,vi],h⟩
def afP {t e:TypeId}{i:TypeInfo}{x d:Value}(ht:P.underlying t=some (.slice e))(hi:P.info? e=some i)(h:qH i.size x d K w):xl P (Instr.indexAt t x d) K w:=by
 unfold qH at h
 split at h<;>try exact h.elim
 obtain⟨b,c,a⟩:=h
 exact⟨_,w,by simp[Instr.indexAt,asIntOf,cu w ht,jl w hi,b,c,vi],a⟩
def Xz {t e:TypeId}{n:Nat}{i:TypeInfo}{x d:Value}(ht:P.underlying t=some (.array n e))(hi:P.info? e=some i)(h:nM n i.size x d K w):xl P (Instr.indexAt t x d) K w:=by
 unfold nM at h
 split at h<;>try exact h.elim
 obtain⟨b,c,a⟩:=h
 exact⟨_,w,by simp[Instr.indexAt,asIntOf,Instr.sureAddr,cu w ht,jl w hi,b,c,vi],a⟩
def acM {t:TypeId}{d:TypeDesc}{i:TypeInfo}{cs:Array Value}{o:Nat}(hd:P.underlying t=some d)(hi:P.info? t=some i)(h:uj (ri d) o i.size (.agg cs) K w):xl P (part t cs o) K w:=by
 unfold uj at h
 simp only at h
 unfold xl part
 simp only[Sem.run_bind,te w hd,Result.andThen_ok]
 cases a:ri d
 ·simp only[a,Or,if_false]at h ⊢
  unfold gm at h
  split at h<;>try exact h.elim
  rename_i v b
  exact⟨v,w,by simp[b],h⟩
 ·simp only[a,if_true]at h ⊢
  exact⟨_,w,by simp[jl w hi],h⟩
def aa6 {s:TypeId}{k:Array Field}{f:Nat}{j:Field}{d:TypeDesc}{i:TypeInfo}{x:Value}(g:P.underlying s=some (.struct k))(e:k[f]? = some j)(hd:P.underlying j.type=some d)
  (hi:P.info? j.type=some i) (h:uj (ri d) j.offset i.size x K w):xl P (Instr.field s x f) K w:=by
 cases x<;>try exact h.elim
 obtain⟨v,b,c,a⟩:=acM hd hi h
 exact⟨v,b,by simp[Instr.field,cu w g,e,asAgg,c],a⟩
def W5 {x:Value}{i:Nat}(h:ib i x K w):xl P (Instr.extract x i) K w:=by
 unfold ib at h
 split at h<;>try exact h.elim
 unfold gm at h
 split at h<;>try exact h.elim
 rename_i v a
 exact⟨v,w,by simp[Instr.extract,a],h⟩
def ab3 {t:TypeId}{d:TypeDesc}{x:Value}(ht:P.underlying t=some d)(hd:∀a,d=.interface a->False)(h:tq t x K w):xl P (Instr.makeInterface t x) K w:=by
 refine⟨.iface t x,w,?_,h⟩
 simp only[Instr.makeInterface,Sem.run_bind,cu w ht,Result.andThen_ok]
 exact Sem.run_pure ..
def af9 {t e:TypeId}{x:Value}{ty:TypeId}(ht:P.underlying t=some (.slice e))(h:fu x K w):xl P (Builtin.len_ #[t] ty #[x]) K w:=by
 unfold fu at h
 split at h<;>try exact h.elim
 exact⟨_,w,by simp[Builtin.len_,cu w ht,goInt],h⟩
def Oj (f:Value->Value->Option Value)(g:Value->Value->Sem Value)(hfg:∀x y z,f x y=some z->(g x y).run P w=.ok z w) :
  ∀(l:List Value) (x z:Value),Jq f x l=some z->(l.foldlM g x).run P w=.ok z w
 | [],x,z,h=>by simp[Jq]at h;simp[h]
 |y::l,x,z,h=>by
  simp only[Jq]at h
  split at h
  ·rename_i u hu
   simp only[List.foldlM_cons,Sem.run_bind,hfg _ _ _ hu,Result.andThen_ok]
   exact Oj f g hfg l u z h
  ·exact(by cases h)
def afY {x:Value}{l:List Value}{ts:Array TypeId}{ty:TypeId}(h:rQ x l K w):xl P (Builtin.max_ ts ty (x::l).toArray) K w:=by
 unfold rQ gm at h
 split at h<;>try exact h.elim
 rename_i v b
 refine⟨v,w,?_,h⟩
 simp only[Builtin.max_]
 exact Oj aab Builtin.max2 (λx y z a=>by cases x<;>cases y<;>simp[aab]at a;subst a;simp[Builtin.max2]) l x v b
def afo {x:Value}{l:List Value}{ts:Array TypeId}{ty:TypeId}(h:mA x l K w):xl P (Builtin.min_ ts ty (x::l).toArray) K w:=by
 unfold mA gm at h
 split at h<;>try exact h.elim
 rename_i v b
 refine⟨v,w,?_,h⟩
 simp only[Builtin.min_]
 exact Oj V4 Builtin.min2 (λx y z a=>by cases x<;>cases y<;>simp[V4]at a;subst a;simp[Builtin.min2]) l x v b
def XE {t:TypeId}{op:BinOp}{x y:Value}(h:ap op x y K w):xl P (binOp op t x y) K w:=by
 unfold ap at h
 split at h<;>try exact h.elim
 rename_i k a g b
 split at h
 ·exact⟨_,w,by simp[binOp,Op.shift,show ¬b<0 by omega],h.2⟩
 ·exact⟨_,w,by simp[binOp,Op.shift,show ¬b<0 by omega],h.2⟩
 ·rename_i d e
  obtain⟨rfl,h⟩:=h
  unfold gm at h
  split at h<;>try exact h.elim
  rename_i v c
  refine⟨v,w,?_,h⟩
  cases op<;>simp[pm]at c d e<;>(try subst c)<;>(try simp[binOp,Op.intArith,Op.intBits,Op.intCmp])<;>(obtain⟨f,rfl⟩:=c;simp[Op.intDiv,f])
def RZ {t:TypeId}(n:Nat)(a b:Bool)(ht:P.underlying t=some .bool):(Op.equalIn (n+1) t (.bool a) (.bool b)).run P w=.ok (a == b) w:=by
 simp[Op.equalIn,cu w ht]
def ac5 {t:TypeId}{k:IntKind}(n:Nat)(c:IntKind)(a b:Int)(ht:P.underlying t=some (.int k)):(Op.equalIn (n+1) t (.int c a) (.int c b)).run P w=.ok (a == b) w:=by
 simp[Op.equalIn,cu w ht]
def adv {t e:TypeId}(n:Nat)(b:Option Addr)(ht:P.underlying t=some (.pointer e)):(Op.equalIn (n+1) t (.pointer none) (.pointer b)).run P w=.ok b.isNone w:=by
 simp[Op.equalIn,cu w ht]
def abN {t e:TypeId}(n:Nat)(b:Addr)(ht:P.underlying t=some (.pointer e)):(Op.equalIn (n+1) t (.pointer (some b)) (.pointer none)).run P w=.ok false w:=by
 simp[Op.equalIn,cu w ht]
def aaF {t e:TypeId}(n:Nat)(b:Option Addr)(i j l c:Nat)(ht:P.underlying t=some (.slice e)):(Op.equalIn (n+1) t (.slice none i j) (.slice b l c)).run P w=.ok b.isNone w:=by
 simp[Op.equalIn,cu w ht]
def Yx {t e:TypeId}(n:Nat)(b:Addr)(i j l c:Nat)(ht:P.underlying t=some (.slice e)):(Op.equalIn (n+1) t (.slice (some b) l c) (.slice none i j)).run P w=.ok false w:=by
 simp[Op.equalIn,cu w ht]
def Ly {t:TypeId}{op:BinOp}{x y:Value}{r:Bool}(a:∀op',binOp op' t x y=match(op':BinOp)with | .eql=>(do pure (.bool (<-Op.equal t x y))) | .neq=>(do pure (.bool (!(<-Op.equal t x y))))|_=>binOp op' t x y)
  (b:(Op.equal t x y).run P w=.ok r w) (h:Qw op r K w):xl P (binOp op t x y) K w:=by
 unfold Qw at h
 split at h<;>try exact h.elim
 ·exact⟨_,w,by rw[a];simp only[Sem.run_bind,b,Result.andThen_ok,Sem.run_pure],h⟩
 ·exact⟨_,w,by rw[a];simp only[Sem.run_bind,b,Result.andThen_ok,Sem.run_pure],h⟩
def WR {t:TypeId}{op:BinOp}{x y:Value}(ht:P.underlying t=some .bool)(h:jE op x y K w):xl P (binOp op t x y) K w:=by
 unfold jE at h
 split at h<;>try exact h.elim
 exact Ly (λa=>by cases a<;>rfl) (RZ 9999 _ _ ht) h
def aaC {t e:TypeId}{op:BinOp}{x y:Value}(ht:P.underlying t=some (.pointer e))(h:iV op x y K w):xl P (binOp op t x y) K w:=by
 unfold iV at h
 split at h<;>try exact h.elim
 ·exact Ly (λa=>by cases a<;>rfl) (adv 9999 _ ht) h
 ·exact Ly (λa=>by cases a<;>rfl) (abN 9999 _ ht) h
def QD {t e:TypeId}{op:BinOp}{x y:Value}(ht:P.underlying t=some (.slice e))(h:kR op x y K w):xl P (binOp op t x y) K w:=by
 unfold kR at h
 split at h<;>try exact h.elim
 ·exact Ly (λa=>by cases a<;>rfl) (aaF 9999 _ _ _ _ _ ht) h
 ·exact Ly (λa=>by cases a<;>rfl) (Yx 9999 _ _ _ _ _ ht) h
def aca {t:TypeId}{op:BinOp}{x y:Value}(h:yu op x y K w):xl P (binOp op t x y) K w:=by
 unfold yu at h
 split at h<;>try exact h.elim
 unfold Qw at h
 split at h<;>try exact h.elim
 ·exact⟨_,w,by simp[binOp,Op.stringOp],h⟩
 ·exact⟨_,w,by simp[binOp,Op.stringOp],h⟩
def Xq {t f:TypeId}{i:TypeInfo}{z x:Value}{d:TypeDesc}(ht:P.underlying t=some d)(hd:∀a,d=.interface a->False)(hi:P.info? t=some i)(e:i.zero=some z)(h:tJ t z x K w):xl P (Instr.typeAssert x f t true) K w:=by
 unfold tJ at h
 split at h<;>try exact h.elim
 rename_i c v
 refine⟨_,w,?_,h⟩
 simp only[Instr.typeAssert,Sem.run_bind,cu w ht,Result.andThen_ok]
 by_cases b:c=t
 ·rw[zp b]
  cases d<;>first|exact(hd _ rfl).elim|(simp only[b,if_true];exact Sem.run_pure ..)
 ·rw[zn b]
  cases d<;>first|exact(hd _ rfl).elim|simp only[zn b,if_true,Sem.run_bind,nB w hi e,Result.andThen_ok,Sem.run_pure]
def aiq (P:Program)(t:TypeId)(ks:List CK):Prop :=
 P.eqGuardType P.depth t=false/\∀(xs ys:List Value) (w:World),lH ks xs->lH ks ys->(Op.equal t (.agg xs.toArray) (.agg ys.toArray)).run P w=.ok (jw xs ys) w
def aa9 {t:TypeId}{ks:List CK}{op:BinOp}{x y:Value}(ht:aiq P t ks)(h:nJ ks op x y K w):xl P (binOp op t x y) K w:=by
 unfold nJ at h
 split at h<;>try exact h.elim
 obtain⟨c,d,b⟩:=h
 exact Ly (λa=>by cases a<;>rfl) (by simpa using ht.2 _ _ w c d) b
end
end Go.Proofs.YtoealglbimbbmaaGreatDoor.S
namespace Go.Proofs.YtoealglbimbbmaaGreatDoor.S
open Go
section
variable {P:Program}{K:KV}{w:World}
def ZQ (off:Nat):∀(l:List Value)(k:Nat)(cs:Array Value),((l.zipIdx k).foldl (λcs p=>cs.setIfInBounds (off+p.2) p.1) cs).toList=LX cs.toList (off+k) l
 | [],k,cs=>rfl
 |v::l,k,cs=>by
  simp only[List.zipIdx_cons,zbv]
  rw[ZQ off l (k+1)]
  simp[LX,zcE]
def HI (place:Nat->Option (Nat×Nat)):∀(parts:List (Nat×Value))(ps:List (Nat×Nat×Value))(cells:Array Value)(cs:List Value),
  (parts.mapM λx=>(place x.1).map λq=>(q.1,q.2,x.2))=some ps->xo cells.toList ps=some cs->Instr.fill place cells parts=some cs.toArray
 | [],ps,cells,cs,h,hb=>by
  simp at h;subst h;simp[xo]at hb;subst hb;simp[Instr.fill]
 |(i,v)::parts,ps,cells,cs,h,hb=>by
  simp only[zbn,Option.bind_eq_bind,zcp,za0,Option.pure_def,zay]at h
  obtain⟨a,⟨q,hq,rfl⟩,ps',h',rfl⟩:=h
  simp only[xo]at hb
  split at hb
  ·rename_i hc
   simp only[Instr.fill,hq]
   rw[zn (by simp only[zaw,decide_eq_true_eq,ne_eq];simp at hc ⊢;omega)]
   refine HI place parts ps' _ cs h' ?_
   rw[<-hb]
   congr 1
   have:=ZQ q.1 v.cells.toList 0 cells
   simp only[zbM]at this
   rw[<-this]
   rw[<-Array.foldl_toList,Array.toList_zipIdx]
  ·cases hb
def VW {α β:Type}(f:α->Sem β)(g:α->β)(w:World):∀(l:List α),(∀x∈l,(f x).run P w=.ok (g x) w)->(l.mapM f).run P w=.ok (l.map g) w
 | [],_=>by simp
 |x::l,h=>by
  simp only[zbn,Sem.run_bind,h x zs,Result.andThen_ok,VW f g w l (λy hy=>h y (by simp[hy])),Sem.run_pure,zaj]
abbrev places (P:Program):List Field->Option (List (Nat×Nat))
 | []=>some []
 |f::fs=>match P.info? f.type,places P fs with
  |some i,some l=>some ((f.offset,i.size)::l)
  |_,_=>none
def O8:∀(fs:List Field)(l:List (Nat×Nat)),places P fs=some l->(∀f∈fs,∃i,P.info? f.type=some i)/\l=fs.map λf=>(f.offset,((P.info? f.type).map (·.size)).getD 0)
 | [],l,h=>by simp[places]at h;simp[h]
 |f::fs,l,h=>by
  simp only[places]at h
  split at h
  ·rename_i i l' hi hl
   obtain⟨h1,h2⟩:=O8 fs l' hl
   cases h
   refine⟨?_,by simp[hi,<-h2]⟩
   intro g hg
   rcases zaa.1 hg with rfl|hg
   ·exact⟨i,hi⟩
   ·exact h1 g hg
  ·cases h
def abM {t:TypeId}{r:Array Field}{i:TypeInfo}{z:Value}{c:Array (Nat×Value)}{p:List (Nat×Nat)}{ps:List (Nat×Nat×Value)}(ht:P.underlying t=some (.struct r))(hi:P.info? t=some i)(s:i.zero=some z)
  (n:places P r.toList=some p) (o:(c.toList.mapM λx=>(nth p x.1).map λq=>(q.1,q.2,x.2))=some ps) (h:iz z.cells.toList ps K w):xl P (Instr.build t c) K w:=by
 unfold iz at h
 split at h<;>try exact h.elim
 rename_i d b
 obtain⟨g,k⟩:=O8 _ _ n
 have l:(r.mapM (m:=Sem) λf=>do pure (f.offset,<-sizeOf f.type)).run P w=.ok p.toArray w:=by
  rw[zce,Sem.run_map,VW _ (λf=>(f.offset,((P.info? f.type).map (·.size)).getD 0)) w]
  ·simp[k]
  ·intro f e
   obtain⟨j,hj⟩:=g f e
   simp[jl w hj,hj]
 refine⟨_,w,?_,h⟩
 have a:Instr.fill (λx=>p.toArray[x]?) z.cells c.toList=some d.toArray:=by
  refine HI _ _ ps _ d ?_ b
  simpa[xm]using o
 simp only[Instr.build,Sem.run_bind,nB w hi s,Result.andThen_ok,cu w ht,l,a,Sem.run_pure]
def M6 (zero:Array Value):∀n:Nat,((Array.range (n*zero.size)).map (zero[· % zero.size]!)).toList=wG n zero.toList
 |0=>by simp[wG]
 |n+1=>by
  have ih:=M6 zero n
  simp only[zck,Array.toList_range]at ih ⊢
  rw[Nat.succ_mul,List.range_add,zal,ih]
  simp only[wG,zcD,List.flatten_append,List.flatten_cons,List.flatten_nil,zbw]
  congr 1
  apply zbZ
  ·simp
  ·intro j h1 h2
   simp only[zaq,List.length_range]at h1
   simp only[List.map_map,List.getElem_map,List.getElem_range,Function.comp]
   rw[Nat.mul_comm,Nat.mul_add_mod,Nat.mod_eq_of_lt h1,getElem!_pos zero j h1]
   simp
def PE (zero:Array Value)(n:Nat):(Array.range (n*zero.size)).map (zero[· % zero.size]!)=(wG n zero.toList).toArray:=by
 apply zan.1
 rw[M6]
def Pm {t e:TypeId}{i:TypeInfo}{z:Value}{b:Nat}{f:Array (Nat×Value)}{ps:List (Nat×Nat×Value)}(ht:P.underlying t=some (.slice e))(hi:P.info? e=some i)(q:i.zero=some z)(m:z.cells.size=i.size)
  (p:ps=f.toList.map λx=>(x.1*i.size,i.size,x.2)) (h:ck z.cells.toList b ps K w):xl P (Instr.buildSlice t b f) K w:=by
 unfold ck at h
 obtain⟨o,h⟩:=h
 split at h<;>try exact h.elim
 rename_i k g
 have n:b*i.size<=16777216:=by simpa[m]using o
 have a:(Array.range (b*i.size)).map (((if b*i.size=0 then #[]else z.cells):Array Value)[· % ((if b*i.size=0 then #[]else z.cells):Array Value).size]!)=(wG b z.cells.toList).toArray:=by
  by_cases d:b*i.size=0
  ·rw[d]
   rcases Nat.mul_eq_zero.1 d with d|d
   ·subst d;simp[wG]
   ·have:z.cells.toList=[]:=by
     apply zah;simp[m,d]
    rw[this];simp[wG]
  ·simp only[zn d]
   rw[<-m,PE]
 have c:Instr.fill (λj=>some (j*i.size,i.size)) (wG b z.cells.toList).toArray f.toList=some k.toArray:=by
  refine HI _ _ ps _ k ?_ (by simpa using g)
  rw[p]
  simp only[Option.map_some]
  generalize f.toList=l
  induction l with
  |nil=>rfl
  |cons x l ih=>simp only[zbn,ih,zaj];rfl
 refine⟨_,_,?_,h e⟩
 simp only[Instr.buildSlice,Sem.run_bind,cu w ht,Result.andThen_ok,jl w hi]
 rw[zn]
 by_cases d:b*i.size=0
 ·simp only[zp d]at a ⊢
  simp only[Sem.run_bind,Sem.run_pure,Result.andThen_ok,a,c,tt]
 ·simp only[zn d]at a ⊢
  simp only[Sem.run_bind,Sem.run_pure,Result.andThen_ok,nB w hi q,a,c,tt]
def Vp {n:Int}(h0:0<=n)(a:n<=9223372036854775807):IntKind.i64.wrap n=n:=by
 simp[IntKind.wrap,IntKind.bits,IntKind.signed]
 omega
def QV {t e:TypeId}{i:TypeInfo}{z:Value}{l c:Value}(ht:P.underlying t=some (.slice e))(hi:P.info? e=some i)(u:i.zero=some z)(p:z.cells.size=i.size)
  (h:gA i.bytes z.cells.toList l c K w):xl P (Instr.makeSlice t l c) K w:=by
 unfold gA at h
 split at h<;>try exact h.elim
 rename_i k l s c
 obtain⟨b,q,m,r,h⟩:=h
 have g:c<=9223372036854775807:=by simp only[maxLen]at m;omega
 have j:=Vp b (by omega:l<=9223372036854775807)
 have o:=Vp (by omega:0<=c) g
 have a:(Array.range (c.toNat*i.size)).map (((if c.toNat*i.size=0 then #[]else z.cells):Array Value)[· % ((if c.toNat*i.size=0 then #[]else z.cells):Array Value).size]!)=(wG c.toNat z.cells.toList).toArray:=by
  by_cases b:c.toNat*i.size=0
  ·rw[b]
   rcases Nat.mul_eq_zero.1 b with b|b
   ·rw[b];simp[wG]
   ·have:z.cells.toList=[]:=by
     apply zah;simp[p,b]
    rw[this];simp[wG]
  ·simp only[zn b]
   rw[<-p,PE]
 refine⟨_,_,?_,h e⟩
 have n:¬((decide (c<0)||decide ((i.bytes:Int)*c > 281474976710656))=true):=by simp;omega
 simp only[Instr.makeSlice,Sem.run_bind,cu w ht,Result.andThen_ok,asInt,asIntOf,Sem.run_pure,oI w hi,j,o]
 have d:((decide (c<0)||decide ((i.bytes:Int)*c > 2 ^ 48))||decide (l<0)||decide (l > c))=false:=by
  have:(2:Int) ^ 48=281474976710656:=by decide
  simp[this];omega
 rw[zn (by simpa using d)]
 by_cases f:c.toNat*i.size=0
 ·simp only[zp f]at a
  simp only[Sem.run_bind,run_askRoom,Result.andThen_ok,jl w hi,zp f,Sem.run_pure,a,tt]
 ·simp only[zn f]at a
  simp only[Sem.run_bind,run_askRoom,Result.andThen_ok,jl w hi,zn f,Sem.run_pure,nB w hi u,a,tt]
def acb {t e:TypeId}{i:TypeInfo}{x:Value}{lo v:Option Value}(ht:P.underlying t=some (.slice e))(hi:P.info? e=some i)(h:p9 i.size x lo v K w):xl P (Instr.sliceAt t x lo v none) K w:=by
 unfold p9 at h
 split at h<;>try exact h.elim
 rename_i a g f
 split at h<;>try exact h.elim
 rename_i l A d b
 obtain⟨q,r,z,h⟩:=h
 obtain⟨p,rfl⟩:=zaK q
 obtain⟨n,rfl⟩:=zaK (zaY q r)
 have j:p<=n:=by omega
 have m:n<=f:=by omega
 refine⟨_,w,?_,h⟩
 have o:∀(k:IntKind) (i y:Nat) (c:BoundsCode),i<=y->(Instr.sliceBound (.int k i) y c).run P w=.ok i w:=by
  intro k i y c s
  unfold Instr.sliceBound
  simp only[asIntOf,Sem.run_bind,Sem.run_pure,Result.andThen_ok]
  rw[zp]
  simp
 have u:(Instr.sliceBounds true g f lo v none).run P w=.ok (p,n,f) w:=by
  unfold Instr.sliceBounds
  unfold Ka at d b
  split at d
  ·split at b
   ·simp only[zay,Int.ofNat_inj]at d b;subst d;subst b
    simp
   ·simp only[zay]at d b;subst b
    have:p=0:=by omega
    subst this
    simp[o _ _ _ _ m]
   ·cases b
  ·split at b
   ·simp only[zay]at d b;subst d
    have:g=n:=by omega
    subst this
    simp[o _ _ _ _ j]
   ·simp only[zay]at d b;subst d;subst b
    simp[o _ _ _ _ j,o _ _ _ _ m]
   ·cases b
  ·cases d
 simp only[Instr.sliceAt,Sem.run_bind,cu w ht,Result.andThen_ok,Instr.slice,u,jl w hi,Sem.run_pure,Int.toNat_natCast]
def Yn {t:TypeId}{x:Value}{lo hi:Option Value}(ht:P.underlying t=some .string)(h:BK x lo hi K w):xl P (Instr.sliceAt t x lo hi none) K w:=by
 unfold BK at h
 split at h<;>try exact h.elim
 rename_i s o a n b
 obtain⟨j,m,r,h⟩:=h
 obtain⟨f,rfl⟩:=zaK j
 obtain⟨d,rfl⟩:=zaK (zaY j m)
 have e:f<=d:=by omega
 have g:d<=s.size:=by omega
 refine⟨_,w,?_,h⟩
 have l:∀(k:IntKind) (i y:Nat) (c:BoundsCode),i<=y->(Instr.sliceBound (.int k i) y c).run P w=.ok i w:=by
  intro k i y c p
  unfold Instr.sliceBound
  simp only[asIntOf,Sem.run_bind,Sem.run_pure,Result.andThen_ok]
  rw[zp]
  simp
 have q:(Instr.sliceBounds false s.size s.size (some (.int o f)) (some (.int n d)) none).run P w=.ok (f,d,s.size) w:=by
  unfold Instr.sliceBounds
  simp[l _ _ _ _ e,l _ _ _ _ g]
 simp only[Instr.sliceAt,Sem.run_bind,cu w ht,Result.andThen_ok,Instr.slice,Option.isSome_none,Or,if_false,q,Sem.run_pure,Int.toNat_natCast]
def E2 {b o n sz c:Nat}{cs:List Value}(h:mem w b=some cs)(a:o+n*sz<=cs.length):(Builtin.firstCells sz n (.slice (some ⟨b,o,none⟩) n c)).run P w=.ok ((cs.drop o).take (n*sz)).toArray w:=by
 simp only[Builtin.firstCells]
 exact Ac h a
def aan {sz:Nat}{x:Value}{n:Nat}{e:List Value}(h:yv sz x w=some (n,e)):∃a c,x=.slice a n c/\(Builtin.firstCells sz n x).run P w=.ok e.toArray w/\e.length=n*sz:=by
 unfold yv at h
 split at h
 ·split at h
  ·cases h;rename_i b;subst b;exact⟨_,_,rfl,by simp[Builtin.firstCells],zs⟩
  ·cases h
 ·split at h
  ·cases h;rename_i b;subst b;exact⟨_,_,rfl,by simp[Builtin.firstCells,loadCells,loadCellsFrom],zs⟩
  ·split at h
   ·split at h
    ·rename_i d
     split at h
     ·rename_i b
      cases h
      exact⟨_,_,rfl,E2 d b,by simp;omega⟩
     ·cases h
    ·cases h
   ·cases h
 ·cases h
def L7 (z:Array Value)(n:Nat):(Builtin.zeroCells z n).toList.length=n*z.size:=by simp[Builtin.zeroCells]
def X4 {t e ty:TypeId}{i:TypeInfo}{z:Value}{s x:Value}(ht:P.underlying t=some (.slice e))(hi:P.info? e=some i)(hz:i.zero=some z)(hs:z.cells.size=i.size)
  (h:fj i.size i.bytes s x K w):xl P (Builtin.append_ #[t,t] ty #[s,x]) K w:=by
 unfold fj at h
 split at h<;>try exact h.elim
 rename_i a d f n g j
 obtain⟨xa,xc,Z,v,y⟩:=aan (P:=P) j
 have q:(Builtin.lenOf x).run P w=.ok n w:=by rw[Z];rfl
 have k:∀(p:List Value),d+n<=maxLen->(d+n)*i.bytes<=140737488355328->f<d+n->(Builtin.firstCells i.size d (.slice a d f)).run P w.drew=.ok p.toArray w.drew ->
   (∀(c:Nat) (rest:List Value) T,d+n<=c->c<=maxLen->rest.length=(c-(d+n))*i.size->K (.slice (some ⟨w.heap.size,0,none⟩) (d+n) c) (w.drew.alloc (.cells (p++g++rest).toArray T))) ->
   xl P (Builtin.append_ #[t,t] ty #[.slice a d f,x]) K w:=by
  intro p C V m u hK
  have R:=growslice_fits m V
  have S:d+n<=9223372036854775807:=by simp only[maxLen]at C;omega
  have r:(Builtin.firstCells i.size n x).run P w.drew=.ok g.toArray w.drew:=(aan (P:=P) (w:=w.drew) (x:=x) j).elim λ_ h=>h.elim λ_ h=>h.2.1
  refine⟨_,_,?_,hK ((Question.appendCap (d+n) f e).cut (w.tape w.drawn (.appendCap (d+n) f e))) (Builtin.zeroCells z.cells ((Question.appendCap (d+n) f e).cut (w.tape w.drawn (.appendCap (d+n) f e))-(d+n))).toList e ?_ ?_ ?_⟩
  ·have I:¬d+n<=f:=by omega
   have H:¬(((d+n:Nat):Int) > IntKind.i64.max/\(False\/i.bytes=0)):=by
    intro hh
    have:IntKind.i64.max=9223372036854775807:=rfl
    omega
   have A:¬Builtin.nextslicecap (d+n) f*i.bytes > 2 ^ 48:=by
    have:(2:Nat) ^ 48=281474976710656:=by decide
    omega
   simp only[Builtin.append_,zbC,List.getElem?_cons_zero,List.getElem?_cons_succ,Sem.run_bind,cu w ht,Result.andThen_ok,jl w hi,Sem.run_pure,Or,if_false,q,zn I,
    oI w hi,zbA,if_true]
   rw[zn H]
   simp only[Sem.run_bind,oI w hi,Result.andThen_ok,zn A]
   have E:(choose (Question.appendCap (d+n) f e)).run P w=.ok ((Question.appendCap (d+n) f e).cut (w.tape w.drawn (.appendCap (d+n) f e))) w.drew:=by
    rw[run_choose_drew];rfl
   simp only[E,Result.andThen_ok,oI w.drew hi,run_askRoom,u,r,nB w.drew hi hz,tt,Sem.run_pure]
   congr 3
   apply zan.1
   simp
  ·simp only[Question.cut];omega
  ·simp only[Question.cut,maxLen]
   have:=Nat.mod_lt (w.tape w.drawn (.appendCap (d+n) f e)) (show 0<2 ^ 63-(d+n) by omega)
   omega
  ·rw[L7,hs]
 split at h
 ·obtain⟨rfl,rfl,B,Q,M,L⟩:=h
  rcases zcL n with rfl|hn
  ·have l:g=[]:=zah (by simpa using y)
   refine⟨_,w,?_,M rfl⟩
   simp only[Builtin.append_,zbC,List.getElem?_cons_zero,List.getElem?_cons_succ,Sem.run_bind,cu w ht,Result.andThen_ok,jl w hi,Sem.run_pure,Or,if_false,q,
    zbA,if_true,zbM,LT,v]
  ·refine k [] zo (by simpa using B) zo (by simp[Builtin.firstCells]) ?_
   simpa using L hn
 ·rename_i b o
  split at h<;>try exact h.elim
  rename_i O N
  obtain⟨h1,B,Q,M,L,U⟩:=h
  have Y:d*i.size<=f*i.size:=zbf _ B
  rcases zaE f (d+n)with m|m
  ·exact k _ M Q m (E2 (w:=w.drew) (by simpa using N) zo) (U m)
  ·obtain⟨F,X,W⟩:=L m
   refine⟨_,_,?_,W⟩
   have J:(d+n)*i.size<=f*i.size:=zbf _ m
   rw[za9]at J
   have D:(storeCells (⟨b,o+d*i.size,none⟩:Addr) g).run P w=.ok () (put w b (LX O (o+d*i.size) g)):=by
    rcases F with rfl|F
    ·have l:g=[]:=zah (by simpa using y)
     subst l
     simp[storeCells,LX,I7 N]
    ·have:=ye (P:=P) g O w (o+d*i.size) 0 N F X zo
     simpa using this
   simp only[Builtin.append_,zbC,List.getElem?_cons_zero,List.getElem?_cons_succ,Sem.run_bind,cu w ht,Result.andThen_ok,jl w hi,Sem.run_pure,Or,if_false,q,
    zbA,if_true,zp m,v,vi,D]
 ·exact h.elim
end
def CP (P:Program)(f:FuncId)(args:List Value)(K:KV)(w:World):Prop :=
 (∃fn,P.funcs[f]? = some fn/\fn.body.isNone=false/\(fn.name == "runtime.NumGoroutine")=false) /\
 Calls P f args.toArray w λe w'=>match e with | .returned v=>K v w'|_=>False
def CP.mono {P:Program}{f:FuncId}{args:List Value}{K K':KV}{w:World}(h:CP P f args K w)(hk:∀v w',K v w'->K' v w'):CP P f args K' w :=
 ⟨h.1,h.2.mono λe w' he=>by cases e<;>first|exact hk _ _ he|exact he⟩
def yL (P:Program)(f:Value)(vs:List Value)(K:KV)(w:World):Prop:=match f with
 | .func (.func g) first captured=>CP P g (first.toList++vs++captured.toList) K w
 |_=>False
def PQ (P:Program)(r:Value)(name:String)(vs:List Value)(K:KV)(w:World):Prop:=match r with
 | .iface t v=>∃f v',(method (P.types.size+Made.depth) t v name).run P w=.ok (f,v') w/\CP P f (v'::vs) K w
 |_=>False
structure I5 where
 P:Program
 be:TypeId->Option (List CK)
structure I5.OK (E:I5):Prop where
 be:∀t ks,E.be t=some ks->aiq E.P t ks
 eW:E.P.follows .mixedOrders=true
abbrev dq (o:Option Value)(k:Value->Prop):Prop:=match o with|some v=>k v|none=>False
abbrev rds (ρ:Operand->Option Value):List Operand->Option (List Value)
 | []=>some []
 |x::l=>match ρ x,rds ρ l with|some v,some vs=>some (v::vs)|_,_=>none
abbrev FW (ρ:Operand->Option Value):List (Nat×Operand)->Option (List (Nat×Value))
 | []=>some []
 |x::l=>match ρ x.2,FW ρ l with|some v,some vs=>some ((x.1,v)::vs)|_,_=>none
abbrev rdO (ρ:Operand->Option Value):Option Operand->Option (Option Value)
 |none=>some none
 |some x=>match ρ x with|some v=>some (some v)|none=>none
abbrev Fh (pl:List (Nat×Nat)):List (Nat×Value)->Option (List (Nat×Nat×Value))
 | []=>some []
 |x::l=>match nth pl x.1,Fh pl l with|some q,some r=>some ((q.1,q.2,x.2)::r)|_,_=>none
abbrev Y5 (sz:Nat):List (Nat×Value)->List (Nat×Nat×Value)
 | []=>[]
 |x::l=>(x.1*sz,sz,x.2)::Y5 sz l
abbrev FF (P:Program)(t:TypeId):Option TypeInfo:=match P.underlying t with|some (.slice e)=>P.info? e|_=>none
abbrev gC (E:I5)(ρ:Operand->Option Value)(o:Op)(K:KV)(w:World):Prop :=
 match o with
 | .move x | .assign x=>dq (ρ x) λv=>K v w
 | .pick c a b=>dq (ρ c) λc=>dq (ρ a) λa=>dq (ρ b) λb=>nf c a b K w
 | .alloc e=>match E.P.info? e with
  |some i=>dq i.zero λz=>mX z.cells K w
  |none=>False
 | .box _ x=>dq (ρ x) λv=>mX v.cells K w
 | .build t parts=>match E.P.underlying t,E.P.info? t,FW ρ parts.toList with
  |some (.struct fs),some i,some vs=>match places E.P fs.toList with
   |some pl=>match Fh pl vs with
    |some ps=>dq i.zero λz=>iz z.cells.toList ps K w
    |none=>False
   |none=>False
  |_,_,_=>False
 | .buildSlice t len parts=>match FF E.P t,FW ρ parts.toList with
  |some i,some vs=>dq i.zero λz=>match Nat.beq z.cells.size i.size with|true=>ck z.cells.toList len (Y5 i.size vs) K w|false=>False
  |_,_=>False
 | .load t a=>match E.P.underlying t,E.P.info? t with
  |some d,some i=>dq (ρ a) λa=>match ri d with|true=>br i.size a K w|false=>ad a K w
  |_,_=>False
 | .store t a x=>match E.P.info? t with
  |some i=>dq (ρ a) λa=>dq (ρ x) λx=>fh i.size a x K w
  |none=>False
 | .nilCheck x=>dq (ρ x) λx=>ji x K w
 | .binOp op t x y _=>dq (ρ x) λx=>dq (ρ y) λy=>match E.P.underlying t with
  |some (.int _)=>ap op x y K w
  |some .bool=>jE op x y K w
  |some (.pointer _)=>iV op x y K w
  |some (.slice _)=>kR op x y K w
  |some .string=>yu op x y K w
  |some (.struct _)=>match E.be t with
   |some ks=>nJ ks op x y K w
   |none=>False
  |_=>False
 | .unOp .not _ x=>dq (ρ x) λx=>rN x K w
 | .convert src dst x=>match E.P.underlying src,E.P.underlying dst with
  |some (.int _),some (.int k)=>dq (ρ x) λx=>AF k x K w
  |_,_=>False
 | .makeFunc fn first captured=>match rds ρ first.toList,rds ρ captured.toList with
  |some a,some b=>K (.func fn a.toArray b.toArray) w
  |_,_=>False
 | .makeSlice t l c=>match FF E.P t with
  |some i=>dq i.zero λz=>match Nat.beq z.cells.size i.size with|true=>dq (ρ l) λl=>dq (ρ c) λc=>gA i.bytes z.cells.toList l c K w|false=>False
  |none=>False
 | .slice t x lo hi none=>match FF E.P t,rdO ρ lo,rdO ρ hi with
  |some i,some lo,some hi=>dq (ρ x) λx=>p9 i.size x lo hi K w
  |none,some lo,some hi=>match E.P.underlying t with
   |some .string=>dq (ρ x) λx=>BK x lo hi K w
   |_=>False
  |_,_,_=>False
 | .fieldAddr s x f=>match E.P.underlying s with
  |some (.struct fs)=>match nth fs.toList f with
   |some fd=>match E.P.info? fd.type with
    |some i=>match Nat.beq i.size 0 with|true=>False|false=>dq (ρ x) λx=>j9 fd.offset x K w
    |none=>False
   |none=>False
  |_=>False
 | .field s x f=>match E.P.underlying s with
  |some (.struct fs)=>match nth fs.toList f with
   |some fd=>match E.P.info? fd.type,E.P.underlying fd.type with
    |some i,some d=>dq (ρ x) λx=>uj (ri d) fd.offset i.size x K w
    |_,_=>False
   |none=>False
  |_=>False
 | .indexAddr t x ix=>match E.P.underlying t with
  |some (.slice e)=>match E.P.info? e with
   |some i=>dq (ρ x) λx=>dq (ρ ix) λix=>qH i.size x ix K w
   |none=>False
  |some (.array n e)=>match E.P.info? e with
   |some i=>dq (ρ x) λx=>dq (ρ ix) λix=>nM n i.size x ix K w
   |none=>False
  |_=>False
 | .extract t i=>dq (ρ t) λt=>ib i t K w
 | .call { callee:=.builtin .len,args,argTypes }=>match args.toList,argTypes.toList with
  | [x],[t]=>match E.P.underlying t with
   |some (.slice _)=>dq (ρ x) λx=>fu x K w
   |_=>False
  |_,_=>False
 | .call { callee:=.builtin .max,args,.. }=>match rds ρ args.toList with
  |some (x::l)=>rQ x l K w
  |_=>False
 | .call { callee:=.builtin .min,args,.. }=>match rds ρ args.toList with
  |some (x::l)=>mA x l K w
  |_=>False
 | .call { callee:=.builtin .append,args,argTypes }=>match args.toList,argTypes.toList with
  | [s,x],[t,t']=>match Nat.beq t t' with
   |true=>match FF E.P t with
    |some i=>dq i.zero λz=>match Nat.beq z.cells.size i.size with|true=>dq (ρ s) λs=>dq (ρ x) λx=>fj i.size i.bytes s x K w|false=>False
    |none=>False
   |false=>False
  |_,_=>False
 | .call { callee:=.value (.func f),args,.. }=>match rds ρ args.toList with
  |some vs=>CP E.P f vs K w
  |none=>False
 | .call { callee:=.value (.tmp t),args,.. }=>match rds ρ args.toList with
  |some vs=>dq (ρ (.tmp t)) λf=>yL E.P f vs K w
  |none=>False
 | .makeInterface t x=>match E.P.underlying t with
  |some (.interface _)=>False
  |some _=>dq (ρ x) λx=>tq t x K w
  |none=>False
 | .typeAssert x _ t true=>match E.P.underlying t,E.P.info? t with
  |some (.interface _),_=>False
  |some _,some i=>dq i.zero λz=>dq (ρ x) λx=>tJ t z x K w
  |_,_=>False
 | .call { callee:=.invoke recv name,args,.. }=>match rds ρ args.toList with
  |some vs=>dq (ρ recv) λr=>PQ E.P r name vs K w
  |none=>False
 |_=>False
def ao {o:Option Value}{k:Value->Prop}(h:dq o k):∃v,o=some v/\k v:=by
 unfold dq at h
 split at h
 ·exact⟨_,rfl,h⟩
 ·exact h.elim
section
variable {ρ:Operand->Option Value}{σ:Operand->Value}
def vC (hρ:∀x v,ρ x=some v->σ x=v):∀(l:List Operand)(vs:List Value),rds ρ l=some vs->l.map σ=vs
 | [],vs,h=>by simp[rds]at h;simp[h]
 |x::l,vs,h=>by
  simp only[rds]at h
  split at h
  ·rename_i v vs' hv hvs
   cases h
   simp[hρ x v hv,vC hρ l vs' hvs]
  ·cases h
def Ce (hρ:∀x v,ρ x=some v->σ x=v):∀(l:List (Nat×Operand))(vs:List (Nat×Value)),FW ρ l=some vs->(l.map λx=>(x.1,σ x.2))=vs
 | [],vs,h=>by simp[FW]at h;simp[h]
 |x::l,vs,h=>by
  simp only[FW]at h
  split at h
  ·rename_i v vs' hv hvs
   cases h
   simp[hρ x.2 v hv,Ce hρ l vs' hvs]
  ·cases h
def Jp (b:∀x v,ρ x=some v->σ x=v)(o:Option Operand)(v:Option Value)(h:rdO ρ o=some v):o.map σ=v:=by
 cases o with
 |none=>simp[rdO]at h;simp[h]
 |some x =>
  simp only[rdO]at h
  split at h
  ·rename_i u a;cases h;simp[b x u a]
  ·cases h
def GN (pl:List (Nat×Nat)):∀(l:List (Nat×Value))(ps:List (Nat×Nat×Value)),Fh pl l=some ps->(l.mapM λx=>(nth pl x.1).map λq=>(q.1,q.2,x.2))=some ps
 | [],ps,h=>by simp[Fh]at h;simp[h]
 |x::l,ps,h=>by
  simp only[Fh]at h
  split at h
  ·rename_i q r hq hr
   cases h
   simp[zbn,hq,GN pl l r hr]
  ·cases h
def Pv (sz:Nat):∀(l:List (Nat×Value)),Y5 sz l=l.map λx=>(x.1*sz,sz,x.2)
 | []=>rfl
 |x::l=>by simp[Y5,Pv sz l]
end
def TR (P:Program)(s:Sem Next)(K:KV)(w:World):Prop:=∃v w',(s.run P w=.ok (.value v) w'\/(s.run P w=.ok .skip w'/\v=undef))/\K v w'
def TR.upon {P:Program}{o:Oper}{a:Act}{next:Act->World->Prop}{Q:Exit->Act->World->Prop}{s:Sem Next}{K:KV}{w:World}(h:TR P s K w)
  (hK:∀v w',K v w'->next (a.put o.dst v) w'):o.upon P a next Q (s.run P w):=by
 obtain⟨v,w',b|⟨b,rfl⟩,hk⟩:=h
 ·rw[b];exact hK _ _ hk
 ·rw[b];exact hK _ _ hk
def wX {P:Program}{t:TypeId}{i:TypeInfo}(h:FF P t=some i):∃e,P.underlying t=some (.slice e)/\P.info? e=some i:=by
 unfold FF at h
 split at h
 ·exact⟨_,by assumption,h⟩
 ·cases h
def CP.upon {P:Program}{o:Oper}{a:Act}{next:Act->World->Prop}{Q:Exit->Act->World->Prop}{f:FuncId}{vs:List Value}{K:KV}{w:World}(h:CP P f vs K w)
  (hK:∀v w',K v w'->next (a.put o.dst v) w'):o.upon P a next Q ((callFunc f vs.toArray).run P w):=by
 obtain⟨⟨k,d,j,i⟩,hc⟩:=h
 have:(callFunc f vs.toArray).run P w=.ok (.enter f vs.toArray) w:=by
  simp only[callFunc,Sem.run_bind]
  have g:(program).run P w=.ok P w:=rfl
  simp only[g,Result.andThen_ok,d,i,j,Or,if_false,Sem.run_pure]
 rw[this,Oper.upon_enter]
 refine hc.mono λe w' b=>?_
 cases e with
 |returned v=>exact hK v w' b
 |panicked c=>exact b.elim
 |outgrown=>exact b.elim
def pG {P:Program}(op:BinOp)(t:TypeId)(x y:Operand)(x' c:Value)(w:World)(h:(∃k n,x'=.int k n)\/(∃b,x'=.bool b)\/(∃a,x'=.pointer a)\/(∃a n m,x'=.slice a n m)\/∃s,x'=.string s) :
  (eqGuard op t x y x' c).run P w=.ok () w:=by
 rcases h with⟨k,n,rfl⟩|⟨b,rfl⟩|⟨a,rfl⟩|⟨a,n,m,rfl⟩|⟨s,rfl⟩
 ·rw[eqGuard_at_int];exact Sem.run_pure _ _ _
 ·rw[eqGuard_at_bool];exact Sem.run_pure _ _ _
 ·rw[eqGuard_at_pointer];exact Sem.run_pure _ _ _
 ·rw[eqGuard_at_slice];exact Sem.run_pure _ _ _
 ·rw[eqGuard_at_string];exact Sem.run_pure _ _ _
def aaM {op:BinOp}{x y:Value}{K:KV}{w:World}(h:ap op x y K w):∃k n,x=.int k n:=by
 unfold ap at h;split at h<;>first|exact⟨_,_,rfl⟩|exact h.elim
def Ye {op:BinOp}{x y:Value}{K:KV}{w:World}(h:jE op x y K w):∃b,x=.bool b:=by
 unfold jE at h;split at h<;>first|exact⟨_,rfl⟩|exact h.elim
def abo {op:BinOp}{x y:Value}{K:KV}{w:World}(h:iV op x y K w):∃b,x=.pointer b:=by
 unfold iV at h;split at h<;>first|exact⟨_,rfl⟩|exact h.elim
def aa1 {op:BinOp}{x y:Value}{K:KV}{w:World}(h:yu op x y K w):∃s,x=.string s:=by
 unfold yu at h;split at h<;>first|exact⟨_,rfl⟩|exact h.elim
def WH {op:BinOp}{x y:Value}{K:KV}{w:World}(h:kR op x y K w):∃a n m,x=.slice a n m:=by
 unfold kR at h;split at h<;>first|exact⟨_,_,_,rfl⟩|exact h.elim
def yW:Op->Bool
 | .store ..=>false
 | .call { callee:=.value _,.. }=>false
 | .call { callee:=.invoke ..,.. }=>false
 |_=>true
def T0 (P:Program)(s:Sem Next)(K:KV)(w:World):Prop:=∃v w',s.run P w=.ok (.value v) w'/\K v w'
theorem xl.bw {P:Program}{s:Sem Value}{s':Sem Next}{K:KV}{w:World}(h:xl P s K w)(d:s'=(do pure (.value (<-s)))):T0 P s' K w:=by
 obtain⟨v,b,c,a⟩:=h
 exact⟨v,b,by rw[d];simp only[Sem.run_bind,c,Result.andThen_ok,Sem.run_pure],a⟩
def Me {E:I5}(hE:E.OK){o:Oper}{a:Act}{ρ:Operand->Option Value}(b:∀x v,ρ x=some v->a.eval x=v){K:KV}{w:World}(Y:yW o.op=true)
  (h:gC E ρ o.op K w):T0 E.P (execOp a.eval o) K w:=by
 obtain⟨af,op,p,aD,R,S⟩:=o
 simp only at h Y
 unfold gC at h
 split at h
 case h_1 x=>obtain⟨v,g,m⟩:=ao h;exact⟨v,w,by simp[execOp,b _ _ g],m⟩
 case h_2 x=>obtain⟨v,g,m⟩:=ao h;exact⟨v,w,by simp[execOp,b _ _ g],m⟩
 case h_3 c x y =>
  obtain⟨c',hc,h⟩:=ao h;obtain⟨X,F,h⟩:=ao h;obtain⟨y',hy,h⟩:=ao h
  obtain⟨t,rfl⟩:∃t,c'=.bool t:=by cases c'<;>first|exact⟨_,rfl⟩|exact h.elim
  refine⟨_,w,?_,h⟩
  simp only[execOp,b _ _ hc,b _ _ F,b _ _ hy,asBool]
  cases t<;>simp
 case h_4 e =>
  split at h<;>try exact h.elim
  rename_i i j
  obtain⟨z,C,h⟩:=ao h
  refine xl.bw (s':=execOp _ _) (K:=K) ?_ rfl
  obtain⟨v,B,r,m⟩:=Ze (P:=E.P) (t:=e) h
  exact⟨v,B,by simpa[Instr.alloc,nB w j C,newVar]using r,m⟩
 case h_5 e x =>
  obtain⟨v,g,h⟩:=ao h
  refine xl.bw (s':=execOp _ _) (K:=K) ?_ rfl
  obtain⟨I,B,r,m⟩:=Ze (P:=E.P) (t:=e) h
  exact⟨I,B,by simpa[Instr.box,b _ _ g,newVar]using r,m⟩
 case h_6 t parts =>
  split at h<;>try exact h.elim
  rename_i fs i W k j O
  split at h<;>try exact h.elim
  rename_i pl am
  split at h<;>try exact h.elim
  rename_i ps ac
  obtain⟨z,C,h⟩:=ao h
  refine xl.bw (s':=execOp _ _) (K:=K) ?_ rfl
  have g:=Ce b _ _ O
  exact abM k j C am (by rw[zck,g];exact GN pl W ps ac) h
 case h_7 t len parts =>
  split at h<;>try exact h.elim
  rename_i i W j O
  obtain⟨z,C,h⟩:=ao h
  split at h<;>try exact h.elim
  rename_i q
  have q:=zaA q
  obtain⟨e,k,j⟩:=wX j
  refine xl.bw (s':=execOp _ _) (K:=K) ?_ rfl
  exact Pm k j C q (by rw[zck,Ce b _ _ O,Pv]) h
 case h_8 t x =>
  split at h<;>try exact h.elim
  rename_i d i J j
  obtain⟨v,g,h⟩:=ao h
  refine xl.bw (s':=execOp _ _) (K:=K) ?_ rfl
  rw[b _ _ g]
  split at h
  ·exact aa8 J j (by assumption) h
  ·rename_i hn;exact aaV J hn h
 case h_9 t x y=>simp[yW]at Y
 case h_10 x =>
  obtain⟨v,g,h⟩:=ao h
  unfold ji at h
  split at h<;>try exact h.elim
  ·exact⟨_,w,by simp[execOp,b _ _ g],h⟩
  ·exact⟨_,w,by simp[execOp,b _ _ g],h⟩
 case h_11 op t x y yt =>
  obtain⟨X,F,h⟩:=ao h;obtain⟨y',hy,h⟩:=ao h
  have A:∀(hg:(eqGuard op t x y X y').run E.P w=.ok () w),xl E.P (binOp op t X y') K w->T0 E.P (execOp a.eval ⟨af,.binOp op t x y yt,p,aD,R,S⟩) K w:=by
   rintro hg ⟨v,B,r,m⟩
   refine⟨v,B,?_,m⟩
   simp only[execOp,b _ _ F,b _ _ hy,Sem.run_bind,hg,r,Result.andThen_ok,Sem.run_pure]
  split at h
  ·exact A (pG _ _ _ _ _ _ _ (.inl (aaM h))) (XE h)
  ·exact A (pG _ _ _ _ _ _ _ (.inr (.inl (Ye h)))) (WR (by assumption) h)
  ·exact A (pG _ _ _ _ _ _ _ (.inr (.inr (.inl (abo h))))) (aaC (by assumption) h)
  ·exact A (pG _ _ _ _ _ _ _ (.inr (.inr (.inr (.inl (WH h)))))) (QD (by assumption) h)
  ·exact A (pG _ _ _ _ _ _ _ (.inr (.inr (.inr (.inr (aa1 h)))))) (aca h)
  ·split at h<;>try exact h.elim
   rename_i ks al
   have T:=hE.be _ _ al
   refine A ?_ (aa9 T h)
   unfold nJ at h
   split at h<;>try exact h.elim
   exact run_eqGuard_agg w op t x y _ _ T.1
  ·exact h.elim
 case h_12 t x =>
  obtain⟨v,g,h⟩:=ao h
  cases v<;>try exact h.elim
  exact⟨_,w,by simp[execOp,b _ _ g,Op.unary],h⟩
 case h_13 src dst' x =>
  split at h<;>try exact h.elim
  rename_i k1 k2 M L
  obtain⟨v,g,h⟩:=ao h
  cases v<;>try exact h.elim
  refine⟨_,w,?_,h⟩
  simp only[execOp,b _ _ g,convert,Sem.run_bind,cu w M,cu w L,Result.andThen_ok,Conv.intToInt,Sem.run_pure]
 case h_14 fn first cap =>
  split at h<;>try exact h.elim
  rename_i W us M L
  refine⟨_,w,?_,h⟩
  have H:=vC b _ _ M
  have V:=vC b _ _ L
  have aC:first.map a.eval=W.toArray:=by apply zan.1;simpa using H
  have aA:cap.map a.eval=us.toArray:=by apply zan.1;simpa using V
  simp only[execOp,Instr.makeFunc,aC,aA,Sem.run_bind,Sem.run_pure,Result.andThen_ok]
 case h_15 t l c =>
  split at h<;>try exact h.elim
  rename_i i j
  obtain⟨z,C,h⟩:=ao h
  split at h<;>try exact h.elim
  rename_i q
  have q:=zaA q
  obtain⟨l',hl,h⟩:=ao h;obtain⟨c',hc,h⟩:=ao h
  obtain⟨e,k,j⟩:=wX j
  refine xl.bw (s':=execOp _ _) (K:=K) ?_ rfl
  rw[b _ _ hl,b _ _ hc]
  exact QV k j C q h
 case h_16 t x lo j =>
  split at h<;>try exact h.elim
  ·rename_i i aF aE Q M L
   obtain⟨v,g,h⟩:=ao h
   obtain⟨e,k,Q⟩:=wX Q
   refine xl.bw (s':=execOp _ _) (K:=K) ?_ rfl
   rw[b _ _ g,Jp b _ _ M,Jp b _ _ L]
   exact acb k Q h
  ·rename_i aF aE U M L
   split at h<;>try exact h.elim
   rename_i k
   obtain⟨v,g,h⟩:=ao h
   refine xl.bw (s':=execOp _ _) (K:=K) ?_ rfl
   rw[b _ _ g,Jp b _ _ M,Jp b _ _ L]
   exact Yn k h
 case h_17 s x f =>
  split at h<;>try exact h.elim
  rename_i fs q
  split at h<;>try exact h.elim
  rename_i fd hf
  split at h<;>try exact h.elim
  rename_i i j
  split at h<;>try exact h.elim
  rename_i U
  have U:¬i.size=0:=λe=>by rw[e]at U;cases U
  obtain⟨v,g,h⟩:=ao h
  refine xl.bw (s':=execOp _ _) (K:=K) ?_ rfl
  rw[b _ _ g]
  exact Rp q (by rw[<-hf,xm];simp) j U h
 case h_18 s x f =>
  split at h<;>try exact h.elim
  rename_i fs q
  split at h<;>try exact h.elim
  rename_i fd hf
  split at h<;>try exact h.elim
  rename_i i d j J
  obtain⟨v,g,h⟩:=ao h
  refine xl.bw (s':=execOp _ _) (K:=K) ?_ rfl
  rw[b _ _ g]
  exact aa6 q (by rw[<-hf,xm];simp) J j h
 case h_19 t x ix =>
  split at h<;>try exact h.elim
  ·rename_i e k
   split at h<;>try exact h.elim
   rename_i i j
   obtain⟨v,g,h⟩:=ao h;obtain⟨u,D,h⟩:=ao h
   refine xl.bw (s':=execOp _ _) (K:=K) ?_ rfl
   rw[b _ _ g,b _ _ D]
   exact afP k j h
  ·rename_i n e k
   split at h<;>try exact h.elim
   rename_i i j
   obtain⟨v,g,h⟩:=ao h;obtain⟨u,D,h⟩:=ao h
   refine xl.bw (s':=execOp _ _) (K:=K) ?_ rfl
   rw[b _ _ g,b _ _ D]
   exact Xz k j h
 case h_20 t i =>
  obtain⟨v,g,h⟩:=ao h
  refine xl.bw (s':=execOp _ _) (K:=K) ?_ rfl
  rw[b _ _ g]
  exact W5 h
 case h_21 args ts =>
  split at h<;>try exact h.elim
  rename_i x t F k
  split at h<;>try exact h.elim
  rename_i e D
  obtain⟨v,g,h⟩:=ao h
  obtain⟨I,B,r,m⟩:=af9 (P:=E.P) (ty:=p) D h
  refine⟨I,B,?_,m⟩
  have H:args=#[x]:=by apply zan.1;simpa using F
  have V:ts=#[t]:=by apply zan.1;simpa using k
  subst H;subst V
  simp only[execOp,resolve,invoke,builtin,Sem.run_bind,Sem.run_pure,Result.andThen_ok,List.map_toArray,zaj,zaL,b _ _ g,r]
 case h_22 args ts =>
  split at h<;>try exact h.elim
  rename_i x l F
  obtain⟨I,B,r,m⟩:=afY (P:=E.P) (ts:=ts) (ty:=p) h
  refine⟨I,B,?_,m⟩
  have H:args.map a.eval=(x::l).toArray:=by apply zan.1;simpa using vC b _ _ F
  simp only[execOp,resolve,invoke,builtin,Sem.run_bind,Sem.run_pure,Result.andThen_ok,H,r]
 case h_23 args ts =>
  split at h<;>try exact h.elim
  rename_i x l F
  obtain⟨I,B,r,m⟩:=afo (P:=E.P) (ts:=ts) (ty:=p) h
  refine⟨I,B,?_,m⟩
  have H:args.map a.eval=(x::l).toArray:=by apply zan.1;simpa using vC b _ _ F
  simp only[execOp,resolve,invoke,builtin,Sem.run_bind,Sem.run_pure,Result.andThen_ok,H,r]
 case h_24 args ts =>
  split at h<;>try exact h.elim
  rename_i s x t t' F k
  split at h<;>try exact h.elim
  rename_i N
  have N:=zaA N
  subst N
  split at h<;>try exact h.elim
  rename_i i j
  obtain⟨z,C,h⟩:=ao h
  split at h<;>try exact h.elim
  rename_i q
  have q:=zaA q
  obtain⟨s',aB,h⟩:=ao h;obtain⟨X,Z,h⟩:=ao h
  obtain⟨e,D,j⟩:=wX j
  obtain⟨I,B,r,m⟩:=X4 (P:=E.P) (ty:=p) D j C q h
  refine⟨I,B,?_,m⟩
  have H:args=#[s,x]:=by apply zan.1;simpa using F
  have V:ts=#[t,t]:=by apply zan.1;simpa using k
  subst H;subst V
  simp only[execOp,resolve,invoke,builtin,Sem.run_bind,Sem.run_pure,Result.andThen_ok,List.map_toArray,zaj,zaL,b _ _ aB,b _ _ Z,r]
 case h_25=>simp[yW]at Y
 case h_26=>simp[yW]at Y
 case h_27 t x =>
  split at h<;>try exact h.elim
  rename_i d J D
  obtain⟨v,g,h⟩:=ao h
  refine xl.bw (s':=execOp _ _) (K:=K) ?_ rfl
  rw[b _ _ g]
  exact ab3 D J h
 case h_28 x xt t =>
  split at h<;>try exact h.elim
  rename_i d i J D j
  obtain⟨z,C,h⟩:=ao h
  obtain⟨v,g,h⟩:=ao h
  refine xl.bw (s':=execOp _ _) (K:=K) ?_ rfl
  rw[b _ _ g]
  exact Xq D J j C h
 case h_29=>simp[yW]at Y
 all_goals exact h.elim
def VQ {E:I5}(hE:E.OK){o:Oper}{a:Act}{ρ:Operand->Option Value}(l:∀x v,ρ x=some v->a.eval x=v){K:KV}{w:World}{next:Act->World->Prop}{Q:Exit->Act->World->Prop}
  (h:gC E ρ o.op K w) (hK:∀v w',K v w'->next (a.put o.dst v) w'):o.wp E.P a w next Q:=by
 unfold Oper.wp
 by_cases q:yW o.op=true
 ·obtain⟨v,w',m,u⟩:=Me hE l q h
  rw[m];exact hK _ _ u
 obtain⟨dst,op,e,k,b,c⟩:=o
 simp only at h q
 unfold gC at h
 split at h
 case h_9 t x y =>
  split at h<;>try exact h.elim
  rename_i i B
  obtain⟨L,I,h⟩:=ao h;obtain⟨M,C,h⟩:=ao h
  obtain⟨w',m,u⟩:=ab5 B h
  refine TR.upon ⟨undef,w',.inr ⟨?_,rfl⟩,u⟩ hK
  simp only[execOp,l _ _ I,l _ _ C,Sem.run_bind,m,Result.andThen_ok,Sem.run_pure]
 case h_25 f args ts =>
  split at h<;>try exact h.elim
  rename_i d j
  have n:args.map a.eval=d.toArray:=by apply zan.1;simpa using vC l _ _ j
  have:=CP.upon (o:=⟨dst,.call ⟨.value (.func f),args,ts⟩,e,k,b,c⟩) (Q:=Q) h hK
  simpa[execOp,resolve,invoke,Deferred.ofValue,Act.eval,n]using this
 case h_26 t args ts =>
  split at h<;>try exact h.elim
  rename_i d j
  obtain⟨f,D,h⟩:=ao h
  unfold yL at h
  split at h<;>try exact h.elim
  rename_i g first p
  have n:args.map a.eval=d.toArray:=by apply zan.1;simpa using vC l _ _ j
  have:=CP.upon (o:=⟨dst,.call ⟨.value (.tmp t),args,ts⟩,e,k,b,c⟩) (Q:=Q) h hK
  have z:(first.toList++d++p.toList).toArray=first++d.toArray++p:=by apply zan.1;simp
  rw[z]at this
  simpa[execOp,resolve,invoke,Deferred.ofValue,l _ _ D,n]using this
 case h_29 recv name args ts =>
  split at h<;>try exact h.elim
  rename_i d j
  obtain⟨r,m,h⟩:=ao h
  unfold PQ at h
  split at h<;>try exact h.elim
  rename_i t v
  obtain⟨f,s,F,h⟩:=h
  have n:args.map a.eval=d.toArray:=by apply zan.1;simpa using vC l _ _ j
  have:=CP.upon (o:=⟨dst,.call ⟨.invoke recv name,args,ts⟩,e,k,b,c⟩) (Q:=Q) h hK
  have q:(program).run E.P w=.ok E.P w:=rfl
  have z:(execOp a.eval ⟨dst,.call ⟨.invoke recv name,args,ts⟩,e,k,b,c⟩).run E.P w=(callFunc f (s::d).toArray).run E.P w:=by
   have H:(#[Value.iface t v]++d.toArray).extract 1 (#[Value.iface t v]++d.toArray).size=d.toArray:=by apply zan.1;simp
   have J:(#[Value.iface t v]++d.toArray)[0]? = some (.iface t v):=by simp
   have A:(s::d).toArray=#[s]++d.toArray:=by apply zan.1;simp
   simp only[execOp,resolve,l _ _ m,n,Sem.run_bind,Sem.run_pure,Result.andThen_ok,invoke,H,J,callMethod,q,F,A]
  rw[z]
  exact this
 all_goals first|exact h.elim|exact absurd rfl q
abbrev Fr:=List (Nat×Option Value)
abbrev KF:=Fr->World->Prop
noncomputable abbrev pR (fr:Fr) (t:Nat):Option Value:=List.rec (motive:=λ_=>Option Value) none (λp _ ih=>cond (Nat.beq p.1 t) p.2 ih) fr
def qo (p:Nat×Option Value)(fr:Fr)(t:Nat):pR (p::fr) t=if p.1=t then p.2 else pR fr t:=by
 show cond (Nat.beq p.1 t) p.2 (pR fr t)=_
 by_cases h:p.1=t
 ·subst h;simp
 ·rw[zn h]
  have:Nat.beq p.1 t=false:=by
   rw[zcd];intro a;exact h (zaA a)
  grind
noncomputable abbrev rd (fr:Fr):Operand->Option Value
 | .tmp t=>pR fr t
 | .const v=>some v
 | .global g=>some (.pointer (some ⟨g,0,none⟩))
 | .func f=>some (.func (.func f) #[] #[])
abbrev adC (fr:Fr)(dst:Option Tmp)(v:Value):Fr:=match dst with|some d=>(d,some v)::fr|none=>fr
def lC (n:Nat)(fr:Fr)(a:Act):Prop:=a.tmps.size=n/\∀t v,pR fr t=some v->a.tmps[t]? = some v
def lC.rd {n:Nat}{fr:Fr}{a:Act}(h:lC n fr a):∀x v,rd fr x=some v->a.eval x=v:=by
 intro x v b
 cases x with
 |tmp t=>simp only[S.rd]at b;simp[Act.eval,zaJ,h.2 t v b]
 |const u=>simp[S.rd]at b;exact b
 |global g=>simp[S.rd]at b;exact b
 |func f=>simp[S.rd]at b;exact b
def lC.put {n:Nat}{fr:Fr}{a:Act}(h:lC n fr a)(f:Option Tmp)(v:Value)(hd:∀d,f=some d->d<n):lC n (adC fr f v) (a.put f v):=by
 cases f with
 |none=>exact h
 |some d =>
  have c:=hd d rfl
  refine⟨by simp[Act.put,h.1],λt u b=>?_⟩
  simp only[adC]at b
  rw[qo]at b
  simp only at b
  simp only[Act.put]
  by_cases e:d=t
  ·subst e
   rw[zp rfl]at b
   cases b
   simp[h.1,c]
  ·rw[zn e]at b
   simp[e,h.2 t u b]
def Y7 (v:Value)(want:Bool):Bool:=match v with | .bool b=>b == want|_=>false
noncomputable abbrev ahS (all:List Oper) (fr:Fr) (j:Nat):Option Value:=match nth all j with|some o=>(match o.dst with|some t=>pR fr t|none=>none)|none=>none
def Fd {n:Nat}{ops:Array Oper}{fr:Fr}{a:Act}{o:Oper}{j:Nat}{g:Bool}{v:Value}(h:lC n fr a)(f:o.guard=some (j,g))(b:ahS ops.toList fr j=some v) :
  Region.wanted o (yielded ops a.tmps)=Y7 v g:=by
 unfold ahS at b
 split at b
 ·rename_i d hj
  split at b
  ·rename_i t e
   have:=h.2 t v b
   rw[xm]at hj
   have c:ops[j]? = some d:=by grind
   simp only[Region.wanted,f,yielded,c,Option.bind_some,e,this]
   cases v<;>simp[Y7]
  ·cases b
 ·cases b
def gW (v:Value)(want:Bool)(A:KV->World->Prop)(K:KV)(w:World):Prop:=∀k,k=K->(Y7 v want=true->A k w)/\(Y7 v want=false->k undef w)
noncomputable abbrev ph (E:I5) (all:List Oper) (fr:Fr) (o:Oper) (K:KV) (w:World):Prop :=
 match o.guard with
 |none=>gC E (rd fr) o.op K w
 |some (j,want)=>match ahS all fr j with
  |some v=>gW v want (λK w=>gC E (rd fr) o.op K w) K w
  |none=>False
noncomputable abbrev Oe (E:I5) (all:List Oper):List Oper->Fr->KF->World->Prop
 | [],fr,k,w=>k fr w
 |o::l,fr,k,w=>ph E all fr o (λv w=>Oe E all l (adC fr o.dst v) k w) w
section
variable {E:I5}(hE:E.OK){ops:Array Oper}
include hE
def QE {n:Nat}{o:Oper}{fr:Fr}{a:Act}{K:KV}{w:World}{next:Act->World->Prop}{Q:Exit->Act->World->Prop}(b:lC n fr a)(h:ph E ops.toList fr o K w)
  (hK:∀v w',K v w'->next (a.put o.dst v) w'):if Region.wanted o (yielded ops a.tmps)=true then o.wp E.P a w next Q else next (a.put o.dst undef) w:=by
 unfold ph at h
 split at h
 ·rename_i c
  rw[zp (by simp[Region.wanted,c])]
  exact VQ hE b.rd h hK
 ·rename_i j e c
  split at h<;>try exact h.elim
  rename_i v f
  rw[Fd b c f]
  split
  ·rename_i d;exact VQ hE b.rd ((h _ rfl).1 d) hK
  ·rename_i d;exact hK _ _ ((h _ rfl).2 (by simpa using d))
def Ab {n:Nat}{Q:Exit->Act->World->Prop}{R:Act->Act->Prop}(hRr:∀a,R a a)(hRt:∀a b c,R a b->R b c->R a c) :
  ∀(l:List Oper) (_:∀o∈l,∀a v,R a (a.put o.dst v)) (_:∀o∈l,∀d,o.dst=some d->d<n) (fr:Fr) (a:Act) (w:World) (k:KF),lC n fr a->Oe E ops.toList l fr k w ->
  (∀fr' a' w',lC n fr' a'->R a a'->k fr' w'->Q .normal a' w')->wpList E.P ops Q l a w
 | [],_,_,fr,a,w,k,hfr,h,hk=>hk fr a w hfr (hRr a) h
 |o::l,hRp,hlt,fr,a,w,k,hfr,h,hk=>by
  refine wpList_step λK' hK'=>?_
  have:=QE hE (next:=K') (Q:=Q) hfr h (λv w' hv=>hK' _ _ (Ab hRr hRt l (λo ho=>hRp o (gr _ ho)) (λo ho=>hlt o (gr _ ho)) _ _ w' k (hfr.put o.dst v (hlt o zs)) hv
   (λfr' a' w'' h1 h2 h3=>hk fr' a' w'' h1 (hRt _ _ _ (hRp o zs a v) h2) h3)))
  exact this
end
inductive Uq where
 |done
 |take (i:Nat) (rest:Uq)
 |run (j:Nat) (hs:List Nat) (rest:Uq)
 |both (p q:Uq)
abbrev qW:Op->Bool
 | .load ..=>true
 |_=>false
abbrev D8:Op->Bool
 | .move _ | .assign _ | .pick .. | .binOp .. | .unOp .. | .convert .. | .extract .. | .nilCheck _ | .fieldAddr .. | .field .. | .indexAddr .. | .makeFunc .. | .build .. | .slice ..=>true
 | .call { callee:=.builtin .len,.. } | .call { callee:=.builtin .max,.. } | .call { callee:=.builtin .min,.. }=>true
 |_=>false
abbrev TQ (hs:List Nat):List (Nat×(World->Prop))->World->Prop
 | [],_=>True
 |(i,S)::l,w=>(match hs.contains i with|true=>S w|false=>True)/\TQ hs l w
noncomputable abbrev vk (E:I5) (all:List Oper):Uq->Fr->List (Nat×(World->Prop))->KF->World->Prop
 | .done,fr,_,k,w=>k fr w
 | .take i r,fr,tk,k,w=>match nth all i with
  |some o=>ph E all fr o (λv w=>vk E all r (adC fr o.dst v) (match qW o.op with|true=>(i,λw'=>ph E all fr o (λv' _=>v'=v) w')::tk|false=>tk) k w) w
  |none=>False
 | .run j hs r,fr,tk,k,w=>match nth all j with
  |some o=>ph E all fr o (λv w=>TQ hs tk w/\vk E all r (adC fr o.dst v) (tk.filter λp=>hs.contains p.1) k w) w
  |none=>False
 | .both p q,fr,tk,k,w=>vk E all p fr tk k w/\vk E all q fr tk k w
def G8:Uq->List Nat
 | .run j _ _=>[j]
 | .both p q=>G8 p++G8 q
 |_=>[]
def depth:Uq->Nat
 | .done=>0
 | .take _ r=>depth r+1
 | .run _ _ r=>depth r+1
 | .both p q=>max (max (depth p) (depth q)) 1
def pi (ops:Array Oper)(ms:List Nat):Uq->Bool->Array Bool->List Nat->Bool
 | .done,_,listed,_=>(Region.ready .any ops listed).isEmpty
 | .take i r,_,listed,tk=>match ops[i]? with
  |some o=>(D8 o.op||qW o.op)&&(Region.ready .any ops listed).contains i&&Region.free .any ops listed i&&pi ops ms r true (listed.setIfInBounds i true) (if qW o.op=true then i::tk else tk)
  |none=>false
 | .run j hs r,top,listed,tk=>(!top||(Region.ready .any ops listed).all (· == j))&&(Region.ready .any ops listed).contains j&&(tk.all λi=>hs.contains i||((nth ms j).getD 0).testBit i)&&pi ops ms r true (listed.setIfInBounds j true) (tk.filter λi=>hs.contains i)
 | .both p q,top,listed,tk=>!(Region.ready .any ops listed).isEmpty&&(!top||(Region.ready .any ops listed).all (λj=>(G8 p++G8 q).contains j))&&pi ops ms p false listed tk&&pi ops ms q false listed tk
def Xy (ops:Array Oper)(ms:List Nat):Bool :=
 (List.range ops.size).all λj=>(List.range ops.size).all λi=>!((nth ms j).getD 0).testBit i ||
  (match ops[j]? with|some o=>o.after.any λe=>Region.binds .any e&&decide (e.on<j)&&(e.on == i||((nth ms e.on).getD 0).testBit i)|none=>false)
inductive BA where
 |done
 |take (i L:Nat) (rest:BA)
 |run (j:Nat) (hs:List Nat) (L:Nat) (rest:BA)
 |both (p q:BA)
abbrev BA.bv:BA->Uq
 | .done=>.done
 | .take i _ r=>.take i r.bv
 | .run j hs _ r=>.run j hs r.bv
 | .both p q=>.both p.bv q.bv
structure agi where
 am:List Nat
 ms:List Nat
 bv:BA
abbrev pE:List Edge->Nat
 | []=>0
 |e::l=>match Region.binds .any e with|true=>(2 ^ e.on) ||| pE l|false=>pE l
abbrev aaG:List Oper->List Nat->Bool
 | [],[]=>true
 |o::l,a::as=>Nat.beq (pE o.after.toList) a&&aaG l as
 |_,_=>false
abbrev DQ (ms:List Nat)(j:Nat):List Edge->Option Nat
 | []=>some 0
 |e::l=>match Region.binds .any e,DQ ms j l with
  |true,some m=>match Nat.blt e.on j with|true=>some (((2 ^ e.on) ||| (nth ms e.on).getD 0) ||| m)|false=>none
  |false,some m=>some m
  |_,none=>none
abbrev VF (ms:List Nat):Nat->List Oper->List Nat->Bool
 |_,[],[]=>true
 |j,o::l,m::r=>(match DQ ms j o.after.toList with|some c=>Nat.beq c m|none=>false)&&VF ms (j+1) l r
 |_,_,_=>false
abbrev aeL:Nat->Nat->List Nat
 |0,_=>[]
 |n+1,m=>match m.testBit n with|true=>n::aeL n m|false=>aeL n m
abbrev aeJ:Nat->Nat->Nat->List Nat
 |0,_,_=>[]
 |n+1,i,m=>match m.testBit i with|true=>i::aeJ n (i+1) m|false=>aeJ n (i+1) m
abbrev aiD:Nat->List Nat->BA
 |_,[]=>.done
 |L,c::r=>match Nat.blt c 64 with
  |true=>.take c (L ||| 2 ^ c) (aiD (L ||| 2 ^ c) r)
  |false=>.run (c % 64) (aeL 64 (c / 64-1)) (L ||| 2 ^ (c % 64)) (aiD (L ||| 2 ^ (c % 64)) r)
inductive Ff where
 |c (l:List Nat)
 |p (l:BA)
abbrev Ff.dU:Ff->BA
 | .c l=>aiD 0 l
 | .p l=>l
abbrev acN (ms:List Nat):List Edge->Nat
 | []=>0
 |e::l=>match Region.binds .any e with|true=>((2 ^ e.on) ||| (nth ms e.on).getD 0) ||| acN ms l|false=>acN ms l
abbrev ag7:List Oper->List Nat->List Nat
 | [],ms=>ms
 |o::l,ms=>ag7 l (ms++[acN ms o.after.toList])
abbrev mkD (ops:Array Oper)(p:Ff):agi:=⟨ops.toList.map λo=>pE o.after.toList,ag7 ops.toList [],p.dU⟩
abbrev Tb (a L i:Nat):Bool:=!(L.testBit i)&&Nat.beq (a &&& L) a
abbrev Kk (L:Nat)(hs:List Nat):Nat->List Nat->Bool
 |_,[]=>true
 |i,a::as=>(!(Tb a L i)||hs.contains i)&&Kk L hs (i+1) as
abbrev VB (L i:Nat)(oi:Oper)(ops:Array Oper):Nat->List Oper->List Nat->Bool
 |_,[],[]=>true
 |j,o::l,a::as=>(Nat.beq j i||L.testBit j||a.testBit i||oi.apart ops o)&&VB L i oi ops (j+1) l as
 |_,_,_=>false
abbrev Mk:BA->List Nat
 | .run j _ _ _=>[j]
 | .both p q=>Mk p++Mk q
 |_=>[]
abbrev okB (ops:Array Oper)(all:List Oper)(am ms:List Nat):BA->Bool->Nat->List Nat->Bool
 | .done,_,L,_=>Kk L [] 0 am
 | .take i L' r,_,L,tk=>match nth all i,nth am i with
  |some o,some a=>(D8 o.op||qW o.op)&&Tb a L i&&VB L i o ops 0 all am&&Nat.beq L' (L ||| 2 ^ i)&&okB ops all am ms r true L' (match qW o.op with|true=>i::tk|false=>tk)
  |_,_=>false
 | .run j hs L' r,top,L,tk=>match nth am j with
  |some a=>(!top||Kk L [j] 0 am)&&Tb a L j&&(tk.all λi=>hs.contains i||((nth ms j).getD 0).testBit i)&&Nat.beq L' (L ||| 2 ^ j)&&okB ops all am ms r true L' (tk.filter λi=>hs.contains i)
  |none=>false
 | .both p q,top,L,tk=>!(Kk L [] 0 am)&&(!top||Kk L (Mk p++Mk q) 0 am)&&okB ops all am ms p false L tk&&okB ops all am ms q false L tk
abbrev Xs (ops:Array Oper)(d:agi):Bool :=
 Region.noSelect ops&&aaG ops.toList d.am&&VF d.ms 0 ops.toList d.ms&&okB ops ops.toList d.am d.ms d.bv true 0 []&&Nat.ble (depth d.bv.bv) ops.size
noncomputable abbrev Qr (E:I5) (ops:Array Oper) (d:agi) (fr:Fr) (k:KF) (w:World):Prop :=
 match Xs ops d with|true=>vk E ops.toList d.bv.bv fr [] k w.drew|false=>False
end Go.Proofs.YtoealglbimbbmaaGreatDoor.S
namespace Go.Proofs.YtoealglbimbbmaaGreatDoor.S
open Go
section
variable {E:I5}{ρ:Operand->Option Value}
def It {t:TypeId}{a:Operand}{K:KV}{w:World}(h:gC E ρ (.load t a) K w):∃v,K v w/\∀K':KV,K' v w->gC E ρ (.load t a) K' w:=by
 simp only[gC]at h
 split at h<;>try exact h.elim
 rename_i d i g f
 obtain⟨x,j,h⟩:=ao h
 split at h
 ·rename_i b
  unfold br at h
  split at h<;>try exact h.elim
  split at h<;>try exact h.elim
  rename_i k c
  refine⟨_,h.2,λK' e=>?_⟩
  simp only[gC,g,f,j,dq,b,br,c]
  grind
 ·rename_i b
  unfold ad at h
  split at h<;>try exact h.elim
  split at h<;>try exact h.elim
  rename_i k c
  unfold gm at h
  split at h<;>try exact h.elim
  rename_i v l
  refine⟨_,h,λK' e=>?_⟩
  simp only[gC,g,f,j,dq,b,ad,c,l,gm]
  exact e
theorem u0 {o:Option Value}{K:KV}{w:World}(h:gm o K w):∃v,o=some v/\K v w:=by
 unfold gm at h
 grind
def Jb {op:BinOp}{t:Bool}{K:KV}{w:World}(h:Qw op t K w):∃v,K v w/\∀(K':KV) w',K' v w'->Qw op t K' w':=by
 unfold Qw at h
 split at h<;>first|exact⟨_,h,λK' w' a=>a⟩|exact h.elim
def WB {op:BinOp}{x y:Value}{K:KV}{w:World}(h:ap op x y K w):∃v,K v w/\∀(K':KV) w',K' v w'->ap op x y K' w':=by
 unfold ap at h
 split at h<;>try exact h.elim
 split at h
 all_goals grind[u0,ap,gm]
def aeV {o:Op}(hp:D8 o=true){K:KV}{w:World}(h:gC E ρ o K w):∃v,K v w/\∀(K':KV) w',K' v w'->gC E ρ o K' w':=by
 unfold gC at h
 split at h<;>try(simp[D8]at hp;done)
 case h_1 x=>obtain⟨v,g,h⟩:=ao h;exact⟨v,h,λK' w' a=>by simp only[gC,g,dq];exact a⟩
 case h_2 x=>obtain⟨v,g,h⟩:=ao h;exact⟨v,h,λK' w' a=>by simp only[gC,g,dq];exact a⟩
 case h_3 c x y =>
  obtain⟨W,hc,h⟩:=ao h;obtain⟨x',m,h⟩:=ao h;obtain⟨y',B,h⟩:=ao h
  obtain⟨t,rfl⟩:∃t,W=.bool t:=by cases W<;>first|exact⟨_,rfl⟩|exact h.elim
  exact⟨_,h,λK' w' a=>by simp only[gC,hc,m,B,dq,nf];exact a⟩
 case h_6 t parts =>
  split at h<;>try exact h.elim
  rename_i Y i vs k A P
  split at h<;>try exact h.elim
  rename_i pl M
  split at h<;>try exact h.elim
  rename_i ps H
  obtain⟨z,hz,h⟩:=ao h
  unfold iz at h
  split at h<;>try exact h.elim
  rename_i cs V
  exact⟨_,h,λK' w' a=>by simp only[gC,k,A,P,M,H,hz,dq,iz,V];exact a⟩
 case h_10 x =>
  obtain⟨v,g,h⟩:=ao h
  unfold ji at h
  split at h<;>try exact h.elim
  ·exact⟨_,h,λK' w' a=>by simp only[gC,g,dq,ji];exact a⟩
  ·exact⟨_,h,λK' w' a=>by simp only[gC,g,dq,ji];exact a⟩
 case h_11 op t x y yt =>
  obtain⟨x',m,h⟩:=ao h;obtain⟨y',B,h⟩:=ao h
  split at h
  ·rename_i k
   obtain⟨v,a,b⟩:=WB h
   exact⟨v,a,λK' w' j=>by simp only[gC,m,B,dq,k];exact b K' w' j⟩
  ·rename_i k
   unfold jE at h
   split at h<;>try exact h.elim
   obtain⟨v,a,b⟩:=Jb h
   exact⟨v,a,λK' w' j=>by simp only[gC,m,B,dq,k,jE];exact b K' w' j⟩
  ·rename_i k
   unfold iV at h
   split at h<;>try exact h.elim
   all_goals
    obtain⟨v,a,b⟩:=Jb h
    exact⟨v,a,λK' w' j=>by simp only[gC,m,B,dq,k,iV];exact b K' w' j⟩
  ·rename_i k
   unfold kR at h
   split at h<;>try exact h.elim
   all_goals
    obtain⟨v,a,b⟩:=Jb h
    exact⟨v,a,λK' w' j=>by simp only[gC,m,B,dq,k,kR];exact b K' w' j⟩
  ·rename_i k
   unfold yu at h
   split at h<;>try exact h.elim
   obtain⟨v,a,b⟩:=Jb h
   exact⟨v,a,λK' w' j=>by simp only[gC,m,B,dq,k,yu];exact b K' w' j⟩
  ·rename_i k
   split at h<;>try exact h.elim
   rename_i ks L
   unfold nJ at h
   split at h<;>try exact h.elim
   obtain⟨r,q,C⟩:=h
   obtain⟨v,a,b⟩:=Jb C
   exact⟨v,a,λK' w' j=>by simp only[gC,m,B,dq,k,L,nJ];exact⟨r,q,b K' w' j⟩⟩
  all_goals grind
 case h_12 t x =>
  obtain⟨v,g,h⟩:=ao h
  obtain⟨t,rfl⟩:∃t,v=.bool t:=by cases v<;>first|exact⟨_,rfl⟩|exact h.elim
  exact⟨_,h,λK' w' a=>by simp only[gC,g,dq,rN];exact a⟩
 case h_13 src dst' x =>
  split at h<;>try exact h.elim
  rename_i k1 k2 r q
  obtain⟨v,g,h⟩:=ao h
  obtain⟨Z,n,rfl⟩:∃Z n,v=.int Z n:=by cases v<;>first|exact⟨_,_,rfl⟩|exact h.elim
  exact⟨_,h,λK' w' a=>by simp only[gC,r,q,g,dq,AF];exact a⟩
 case h_14 fn first cap =>
  split at h<;>try exact h.elim
  grind
 case h_16 t x lo A =>
  split at h<;>try exact h.elim
  ·rename_i i U R S r q
   obtain⟨v,g,h⟩:=ao h
   unfold p9 at h
   split at h<;>try exact h.elim
   split at h<;>try exact h.elim
   rename_i J I
   obtain⟨C,O,N,h⟩:=h
   exact⟨_,h,λK' w' a=>by simp only[gC,S,r,q,g,dq,p9,J,I];exact⟨C,O,N,a⟩⟩
  ·rename_i U R Q r q
   split at h<;>try exact h.elim
   rename_i k
   obtain⟨v,g,h⟩:=ao h
   unfold BK at h
   split at h<;>try exact h.elim
   obtain⟨C,O,N,h⟩:=h
   exact⟨_,h,λK' w' a=>by simp only[gC,Q,r,q,k,g,dq,BK];exact⟨C,O,N,a⟩⟩
 case h_17 s x f =>
  split at h<;>try exact h.elim
  rename_i Y D
  split at h<;>try exact h.elim
  rename_i fd F
  split at h<;>try exact h.elim
  rename_i i A
  split at h<;>try exact h.elim
  rename_i Q
  obtain⟨v,g,h⟩:=ao h
  unfold j9 at h
  split at h<;>try exact h.elim
  exact⟨_,h,λK' w' a=>by simp only[gC,D,F,A,Q,g,dq,j9];exact a⟩
 case h_18 s x f =>
  split at h<;>try exact h.elim
  rename_i Y D
  split at h<;>try exact h.elim
  rename_i fd F
  split at h<;>try exact h.elim
  rename_i i d A X
  obtain⟨v,g,h⟩:=ao h
  unfold uj at h
  split at h<;>try exact h.elim
  split at h
  ·rename_i T
   exact⟨_,h,λK' w' a=>by simp only[gC,D,F,A,X,g,dq,uj,T,if_true];exact a⟩
  ·rename_i T
   obtain⟨u,p,h⟩:=u0 h
   exact⟨_,h,λK' w' a=>by simp only[gC,D,F,A,X,g,dq,uj,zn T,p,gm];exact a⟩
 case h_19 t x ix =>
  split at h<;>try exact h.elim
  ·rename_i e k
   split at h<;>try exact h.elim
   rename_i i A
   obtain⟨v,g,h⟩:=ao h;obtain⟨u,p,h⟩:=ao h
   unfold qH at h
   split at h<;>try exact h.elim
   obtain⟨r,q,h⟩:=h
   exact⟨_,h,λK' w' a=>by simp only[gC,k,A,g,p,dq,qH];exact⟨r,q,a⟩⟩
  ·rename_i n e k
   split at h<;>try exact h.elim
   rename_i i A
   obtain⟨v,g,h⟩:=ao h;obtain⟨u,p,h⟩:=ao h
   unfold nM at h
   split at h<;>try exact h.elim
   obtain⟨r,q,h⟩:=h
   exact⟨_,h,λK' w' a=>by simp only[gC,k,A,g,p,dq,nM];exact⟨r,q,a⟩⟩
 case h_20 t i =>
  obtain⟨v,g,h⟩:=ao h
  unfold ib at h
  split at h<;>try exact h.elim
  obtain⟨u,p,h⟩:=u0 h
  exact⟨_,h,λK' w' a=>by simp only[gC,g,dq,ib,p,gm];exact a⟩
 case h_21 args ts =>
  split at h<;>try exact h.elim
  rename_i x t m k
  split at h<;>try exact h.elim
  rename_i e p
  obtain⟨v,g,h⟩:=ao h
  unfold fu at h
  split at h<;>try exact h.elim
  exact⟨_,h,λK' w' a=>by simp only[gC,m,k,p,g,dq,fu];exact a⟩
 case h_22 args ts =>
  split at h<;>try exact h.elim
  rename_i x l m
  obtain⟨u,p,h⟩:=u0 h
  exact⟨_,h,λK' w' a=>by simp only[gC,m,rQ,p,gm];exact a⟩
 case h_23 args ts =>
  split at h<;>try exact h.elim
  rename_i x l m
  obtain⟨u,p,h⟩:=u0 h
  exact⟨_,h,λK' w' a=>by simp only[gC,m,mA,p,gm];exact a⟩
 grind
end
section
variable {P:Program}{ops:Array Oper}{Q:Exit->Act->World->Prop}
def rV (ms:List Nat)(j:Nat)(tk:List (Nat×(World->Prop))):List (Nat×(World->Prop)):=tk.filter λp=>!((nth ms j).getD 0).testBit p.1
def yc (P:Program)(ops:Array Oper)(Q:Exit->Act->World->Prop)(ms:List Nat):List (Nat×(World->Prop))->Nat->Array Bool->Act->World->Prop
 |_,0,listed,a,w=>Region.ready .any ops listed=[]/\Q .normal a w
 |tk,fuel+1,listed,a,w=>(Region.ready .any ops listed=[]->Q .normal a w) /\
  ∀i∈Region.ready .any ops listed,wpOp P ops Q i (λa' w'=>(∀p∈rV ms i tk,p.2 w')/\yc P ops Q ms (rV ms i tk) fuel (listed.setIfInBounds i true) a' w') a w
def HM {ms:List Nat}:∀(fuel:Nat)(tk:List (Nat×(World->Prop)))(listed:Array Bool)(a:Act)(w:World),yc P ops Q ms tk fuel listed a w->wpAny P .any ops Q fuel listed a w
 |0,_,_,_,_,h=>h
 |fuel+1,_,_,_,_,h=>⟨h.1,λi hi=>wpOp_mono (λa' w' h'=>HM fuel _ _ a' w' h'.2) (h.2 i hi)⟩
def B1 {ms:List Nat}:∀(fuel:Nat)(tk tk':List (Nat×(World->Prop)))(_:∀p∈tk',p∈tk\/∀w,p.2 w)(listed:Array Bool)(a:Act)(w:World),yc P ops Q ms tk fuel listed a w->yc P ops Q ms tk' fuel listed a w
 |0,_,_,_,_,_,_,h=>h
 |fuel+1,tk,tk',hs,_,_,_,h=>by
  have hd:∀i,∀p∈rV ms i tk',p∈rV ms i tk\/∀w,p.2 w:=λi p hp=>by
   simp only[rV,zaD]at hp ⊢
   exact(hs p hp.1).imp (λhm=>⟨hm,hp.2⟩) id
  exact⟨h.1,λi hi=>wpOp_mono (λa' w' h'=>⟨λp hp=>(hd i p hp).elim (λhm=>h'.1 p hm) (λht=>ht w'),B1 fuel _ _ (hd i) _ a' w' h'.2⟩) (h.2 i hi)⟩
def K9 (ops:Array Oper)(listed:Array Bool):Prop:=∀k o,ops[k]? = some o->listed.getD k false=true->∀e∈o.after,Region.binds .any e=true->listed.getD e.on false=true
def K9.set {listed:Array Bool}{i:Nat}(h:K9 ops listed)(hi:i∈Region.ready .any ops listed):K9 ops (listed.setIfInBounds i true):=by
 intro k o f c e g l
 have b:listed.getD e.on false=true->(listed.setIfInBounds i true).getD e.on false=true:=getD_set_true
 by_cases a:i=k
 ·subst a
  obtain⟨_,m,j,d⟩:=mem_ready.1 hi
  grind
 ·rw[getD_set_ne false a]at c
  exact b (h k o f c e g l)
def aaB {ms:List Nat}(k:Xy ops ms=true){listed:Array Bool}(s:K9 ops listed):∀(j i:Nat),j<ops.size->i<ops.size->((nth ms j).getD 0).testBit i=true ->
  (∀o,ops[j]? = some o->∀e∈o.after,Region.binds .any e=true->listed.getD e.on false=true)->listed.getD i false=true:=by
 intro j
 induction j using Nat.strongRecOn with
 |_ j ih =>
  intro i hj l h a
  simp only[Xy,zaM,zbz]at k
  have:=k j hj i l
  rw[h]at this
  simp only[zbj,zba]at this
  split at this
  ·rename_i o m
   simp only[Array.any_eq_true,GE,zaw,decide_eq_true_eq,beq_iff_eq]at this
   obtain⟨x,r,⟨c,d⟩,hor⟩:=this
   have b:=a o m _ (Array.getElem_mem r) c
   rcases hor with f|htb
   ·rw[f]at b;exact b
   ·have q:o.after[x].on<ops.size:=by omega
    exact ih _ d i q l htb (λp g e n h=>s _ p g b e n h)
  ·cases this
def SE {ms:List Nat}(Y:Xy ops ms=true){i:Nat}{Z:Oper}{v:Value}{S:World->Prop}(hi:ops[i]? = some Z)(D:∀(j:Nat)(o:Oper) cs b,ops[j]? = some o->o.op≠.select cs b)
  (hQ:∀c a w,Q (.panic c) (a.put Z.dst v) w->Q (.panic c) a w) :
  ∀(fuel:Nat) (tk:List (Nat×(World->Prop))) (listed:Array Bool) (a:Act) (w:World),
   (∀j oj,ops[j]? = some oj->j≠i->listed.getD j true=false->(∀e∈oj.after,Region.binds .any e=true->e.on≠i)->Z.apart ops oj=true) ->
   K9 ops listed->i∈Region.ready .any ops listed->YieldsIf P ops S Z v a->S w->(∀p∈tk,p.2 w) ->
   yc P ops Q ms ((i,S)::tk) fuel (listed.setIfInBounds i true) (a.put Z.dst v) w->yc P ops Q ms tk (fuel+1) listed a w:=by
 intro fuel
 induction fuel with
 |zero =>
  intro tk listed a w _ _ r E J I H
  refine⟨λh=>(by rw[h]at r;cases r),λj hj=>?_⟩
  by_cases d:j=i
  ·subst d;exact E.wpOp hi J ⟨λp l=>I p (zaD.1 l).1,H⟩
  ·have:=ready_mono hj d
   rw[H.1]at this
   cases this
 |succ fuel ih =>
  intro tk listed a w f u r E J I H
  refine⟨λh=>(by rw[h]at r;cases r),λj hj=>?_⟩
  by_cases d:j=i
  ·subst d
   exact E.wpOp hi J ⟨λp l=>I p (zaD.1 l).1,B1 _ _ _ (λp l=>.inl (gr _ (zaD.1 l).1)) _ _ _ H⟩
  ·have R:=H.2 j (ready_mono hj d)
   obtain⟨n,oj,m,q⟩:=mem_ready.1 hj
   have s:listed.getD i false=false:=by
    have h0:=(mem_ready.1 r).1
    grind
   have x:∀e∈oj.after,Region.binds .any e=true->e.on≠i:=λe K z U=>by
    have R:=q e K z
    grind
   have C:i<ops.size:=by grind
   have A:j<ops.size:=by grind
   have T:((nth ms j).getD 0).testBit i=false:=by
    cases z:((nth ms j).getD 0).testBit i with
    |false=>rfl
    |true =>
     have:=aaB Y u j i A C z (λo O e K z=>by rw[m]at O;cases O;exact q e K z)
     grind
   have N:=wpOp_putIf m (f j oj m d n x) (λcs b=>D i Z cs b hi) (λcs b=>D j oj cs b m) hQ E R
   have g:∀k B,ops[k]? = some B->k≠i->(listed.setIfInBounds j true).getD k true=false ->
     (∀e∈B.after,Region.binds .any e=true->e.on≠i)->Z.apart ops B=true:=λk B V L s F=>by
    refine f k B V L ?_ F
    by_cases y:j=k
    ·subst y;exact n
    ·rw[getD_set_ne true y]at s;exact s
   have M:rV ms j ((i,S)::tk)=(i,S)::rV ms j tk:=by grind[rV]
   rw[M]at N
   refine wpOp_mono (λX W t=>⟨λp l=>t.2.1 p (gr _ l),?_⟩) N
   refine ih _ (listed.setIfInBounds j true) X W g (u.set hj) (ready_mono r (zbr d)) t.1 (t.2.1 (i,S) zs) (λp l=>t.2.1 p (gr _ l)) ?_
   rw[Array.setIfInBounds_comm _ _ d]
   exact t.2.2
end
def Mq {hs:List Nat}:∀{tk:List (Nat×(World->Prop))}{w:World},TQ hs tk w->∀q∈tk,hs.contains q.1=true->q.2 w
 | [],_,_,q,hq,_=>by cases hq
 |(i,S)::l,w,h,q,hq,hc=>by
  rcases zaa.1 hq with rfl|hq
  ·have hc':hs.contains i=true:=hc
   have:=h.1;rw[hc']at this;exact this
  ·exact Mq h.2 q hq hc
section
variable {E:I5}(hE:E.OK){ops:Array Oper}
include hE
def Nf {o:Oper}{a:Act}{ρ:Operand->Option Value}(l:∀x v,ρ x=some v->a.eval x=v){K:KV}{w:World}(g:D8 o.op=true)(h:gC E ρ o.op K w) :
  ∃v,K v w/\∀w',(execOp a.eval o).run E.P w'=.ok (.value v) w':=by
 obtain⟨v,f,c⟩:=aeV g h
 refine⟨v,f,λw'=>?_⟩
 have d:yW o.op=true:=by
  revert g;cases o.op<;>simp[D8,yW]
  grind
 obtain⟨e,b,k,i,j⟩:=Me hE l (K:=λe b=>e=v/\b=w') d (c _ w' ⟨rfl,rfl⟩)
 grind
def Ni {o:Oper}{a:Act}{ρ:Operand->Option Value}(m:∀x v,ρ x=some v->a.eval x=v){v:Value}{w:World}(n:qW o.op=true)(h:gC E ρ o.op (λv' _=>v'=v) w) :
  (execOp a.eval o).run E.P w=.ok (.value v) w:=by
 obtain⟨g,op,e,i,b,c⟩:=o
 cases op<;>simp[qW]at n
 obtain⟨v',rfl,d⟩:=It h
 obtain⟨u,f,l,j,k⟩:=Me hE (o:=⟨g,_,e,i,b,c⟩) m (K:=λu f=>u=v'/\f=w) rfl (d _ ⟨rfl,rfl⟩)
 grind
def XH {n:Nat}{o:Oper}{fr:Fr}{a:Act}{K:KV}{w:World}(k:lC n fr a)(x:(D8 o.op||qW o.op)=true)(h:ph E ops.toList fr o K w) :
  ∃v,K v w/\if qW o.op=true then YieldsIf E.P ops (λw'=>ph E ops.toList fr o (λv' _=>v'=v) w') o v a/\ph E ops.toList fr o (λv' _=>v'=v) w else YieldsIf E.P ops (λ_=>True) o v a:=by
 cases m:qW o.op with
 |true =>
  simp only[if_true]
  unfold ph at h
  cases b:o.guard with
  |none =>
   simp only[b]at h
   obtain⟨v,i,r⟩:∃v,K v w/\gC E (rd fr) o.op (λv' _=>v'=v) w:=by
    revert h m;cases o.op<;>simp[qW]
    intro h;obtain⟨v,i,f⟩:=It h;exact⟨v,i,f _ rfl⟩
   refine⟨v,i,.inl ⟨by simp[Region.wanted,b],λw' l=>?_⟩,by unfold ph;simp only[b];exact r⟩
   unfold ph at l;simp only[b]at l
   exact Ni hE k.rd m l
  |some g =>
   obtain⟨j,e⟩:=g
   simp only[b]at h
   split at h<;>try exact h.elim
   rename_i t c
   have p:=Fd k b c
   cases d:Y7 t e with
   |true =>
    have h:=(h _ rfl).1 d
    obtain⟨v,i,r⟩:∃v,K v w/\gC E (rd fr) o.op (λv' _=>v'=v) w:=by
     revert h m;cases o.op<;>simp[qW]
     intro h;obtain⟨v,i,f⟩:=It h;exact⟨v,i,f _ rfl⟩
    refine⟨v,i,.inl ⟨by rw[p,d],λw' l=>?_⟩,?_⟩
    ·unfold ph at l;simp only[b,c]at l
     exact Ni hE k.rd m ((l _ rfl).1 d)
    ·unfold ph;simp only[b,c];rintro _ rfl;exact⟨λ_=>r,λs=>absurd (d▸s:true=false) zd⟩
   |false =>
    refine⟨undef,(h _ rfl).2 d,.inr ⟨by rw[p,d],rfl⟩,?_⟩
    unfold ph;simp only[b,c];rintro _ rfl;exact⟨λs=>absurd (d▸s:false=true) zd,λ_=>rfl⟩
 |false =>
  simp only[Or,if_false]
  have u:D8 o.op=true:=by simpa[m]using x
  unfold ph at h
  cases b:o.guard with
  |none =>
   simp only[b]at h
   obtain⟨v,i,q⟩:=Nf hE k.rd u h
   exact⟨v,i,.inl ⟨by simp[Region.wanted,b],λw' _=>q w'⟩⟩
  |some g =>
   obtain⟨j,e⟩:=g
   simp only[b]at h
   split at h<;>try exact h.elim
   rename_i t c
   have p:=Fd k b c
   cases d:Y7 t e with
   |true =>
    obtain⟨v,i,q⟩:=Nf hE k.rd u ((h _ rfl).1 d)
    exact⟨v,i,.inl ⟨by rw[p,d],λw' _=>q w'⟩⟩
   |false=>exact⟨undef,(h _ rfl).2 d,.inr ⟨by rw[p,d],rfl⟩⟩
def Qq {n:Nat}(ac:∀(i:Nat)(o:Oper),ops[i]? = some o->∀d,o.dst=some d->d<n){ms:List Nat}(aA:Xy ops ms=true)(al:Region.noSelect ops=true){Q:Exit->Act->World->Prop}(aB:∀c a w,¬Q (.panic c) a w)
  {R:Act->Act->Prop} (aD:∀a,R a a) (af:∀a b c,R a b->R b c->R a c) (aC:∀(i:Nat) (o:Oper),ops[i]? = some o->∀a v,R a (a.put o.dst v)) :
  ∀(p:Uq) (top:Bool) (listed:Array Bool) (tk:List (Nat×(World->Prop))) (fr:Fr) (a:Act) (w:World) (k:KF) (fuel:Nat),
   pi ops ms p top listed (tk.map (·.1))=true->K9 ops listed->lC n fr a->(∀q∈tk,q.2 w)->vk E ops.toList p fr tk k w ->
   (∀fr' a' w',lC n fr' a'->R a a'->k fr' w'->Q .normal a' w') ->
   (top=true->depth p<=fuel->yc E.P ops Q ms tk fuel listed a w) /\
   (depth p<=fuel+1->∀j∈G8 p,wpOp E.P ops Q j (λa' w'=>(∀q∈rV ms j tk,q.2 w')/\yc E.P ops Q ms (rV ms j tk) fuel (listed.setIfInBounds j true) a' w') a w):=by
 intro p
 induction p with
 |done =>
  intro top listed tk fr a w k fuel f t l y h H
  refine⟨λ_ _=>?_,λ_ j hj=>by cases hj⟩
  have M:Region.ready .any ops listed=[]:=by simpa[pi]using f
  have s:=H fr a w l (aD a) h
  cases fuel with
  |zero=>exact⟨M,s⟩
  |succ n=>exact⟨λ_=>s,by rw[M];simp⟩
 |take i r ih =>
  intro top listed tk fr a w k fuel f t l y h H
  refine⟨λ_ C=>?_,λ_ j hj=>by cases hj⟩
  simp only[pi]at f
  split at f
  ·rename_i o A
   simp only[GE]at f
   obtain⟨⟨⟨s,M⟩,hf⟩,f⟩:=f
   have L:nth ops.toList i=some o:=by rw[xm];simpa using A
   simp only[vk,L]at h
   obtain⟨v,F,N⟩:=XH hE l s h
   have u:i∈Region.ready .any ops listed:=by simpa using M
   cases fuel with
   |zero=>simp[depth]at C
   |succ m =>
    have V:depth r<=m:=by simp only[depth]at C;omega
    have J:=aC i o A a v
    cases hl:qW o.op with
    |true =>
     simp only[hl,if_true]at N F f
     refine SE aA A (Region.noSelect_spec al) (λc a w W=>(aB c _ w W).elim) m tk listed a w (Region.free_spec A hf) t u N.1 N.2 y ?_
     exact(ih true _ ((i,_)::tk) _ _ w k m f (t.set u) (l.put o.dst v (ac i o A)) (λq s=>(zaa.1 s).elim (λe=>by subst e;exact N.2) (y q)) F
      (λfr' a' w' U S O=>H fr' a' w' U (af _ _ _ J S) O)).1 rfl V
    |false =>
     simp only[hl,Or,if_false]at N F f
     refine SE aA A (Region.noSelect_spec al) (λc a w W=>(aB c _ w W).elim) m tk listed a w (Region.free_spec A hf) t u N trivial y ?_
     refine B1 m tk _ (λq s=>(zaa.1 s).elim (λe=>.inr λw=>by subst e;trivial) .inl) _ _ _ ?_
     exact(ih true _ tk _ _ w k m f (t.set u) (l.put o.dst v (ac i o A)) y F (λfr' a' w' U S O=>H fr' a' w' U (af _ _ _ J S) O)).1 rfl V
  ·cases f
 |run j hs r ih =>
  intro top listed tk fr a w k fuel f t l y h H
  simp only[pi,GE]at f
  obtain⟨⟨⟨g,M⟩,hall⟩,f⟩:=f
  have u:j∈Region.ready .any ops listed:=by simpa using M
  obtain⟨_,o,A,_⟩:=mem_ready.1 u
  have L:nth ops.toList j=some o:=by rw[xm];simpa using A
  simp only[vk,L]at h
  have D:∀m,depth r<=m->wpOp E.P ops Q j (λa' w'=>(∀q∈rV ms j tk,q.2 w')/\yc E.P ops Q ms (rV ms j tk) m (listed.setIfInBounds j true) a' w') a w:=by
   intro m hn
   have B:∀q∈rV ms j tk,hs.contains q.1=true:=by
    intro q s
    simp only[rV,zaD,zaH]at s
    simp only[zaM]at hall
    have:=hall q.1 (zcF s.1)
    rw[s.2,zbX]at this;exact this
   have x:=QE hE (ops:=ops) (Q:=Q) (next:=λa' w'=>(∀q∈rV ms j tk,q.2 w')/\yc E.P ops Q ms (rV ms j tk) m (listed.setIfInBounds j true) a' w') l h (λv w' hv=>by
    obtain⟨K,hv⟩:=hv
    have I:=Mq K
    refine⟨λq s=>I q (zaD.1 s).1 (B q s),?_⟩
    refine B1 m (tk.filter λp=>hs.contains p.1) _ (λq s=>.inl (zaD.2 ⟨(zaD.1 s).1,B q s⟩)) _ _ _ ?_
    have Z:pi ops ms r true (listed.setIfInBounds j true) ((tk.filter λp=>hs.contains p.1).map (·.1))=true:=by
     have X:(tk.filter λp=>hs.contains p.1).map (·.1)=(tk.map (·.1)).filter λi=>hs.contains i:=by rw[List.filter_map];rfl
     rw[X];exact f
    exact(ih true _ _ _ _ w' k m Z (t.set u) (l.put o.dst v (ac j o A)) (λq s=>I q (zaD.1 s).1 (zaD.1 s).2) hv
     (λfr' a' am U S O=>H fr' a' am U (af _ _ _ (aC j o A a v) S) O)).1 rfl hn)
   unfold wpOp
   simp only[A]
   split
   ·rename_i hw;rw[zp hw]at x;exact .inl x
   ·rename_i hw;rw[zn hw]at x;exact x
  refine⟨λht C=>?_,λC Y z=>?_⟩
  ·cases fuel with
   |zero=>simp[depth]at C
   |succ n =>
    refine⟨λX=>(by rw[X]at u;cases u),λY z=>?_⟩
    rw[ht]at g
    simp only[zbj,zba,zaM,beq_iff_eq]at g
    rw[g Y z]
    exact D _ (by simp only[depth]at C;omega)
  ·simp only[G8,zaf]at z
   subst z
   exact D fuel (by simp only[depth]at C;omega)
 |both p q ihp ihq =>
  intro top listed tk fr a w k fuel f t l y h H
  simp only[pi,GE]at f
  obtain⟨⟨⟨T,g⟩,W⟩,s⟩:=f
  have D:∀n,depth (.both p q)<=n+1->∀j∈G8 p++G8 q,wpOp E.P ops Q j (λa' w'=>(∀q∈rV ms j tk,q.2 w')/\yc E.P ops Q ms (rV ms j tk) n (listed.setIfInBounds j true) a' w') a w:=by
   intro n hn j hj
   simp only[depth]at hn
   rcases zar.1 hj with hj|hj
   ·exact(ihp false listed tk fr a w k n W t l y h.1 H).2 zo j hj
   ·exact(ihq false listed tk fr a w k n s t l y h.2 H).2 zo j hj
  refine⟨λht C=>?_,λC j hj=>D fuel C j hj⟩
  cases fuel with
  |zero=>simp only[depth]at C;omega
  |succ n =>
   refine⟨λX=>?_,λY z=>?_⟩
   ·rw[X]at T;simp at T
   ·rw[ht]at g
    simp only[zbj,zba,zaM]at g
    exact D n zo Y (by simpa using g Y z)
end
def wL:∀(l:List Edge)(i:Nat),(pE l).testBit i=true↔∃e∈l,Region.binds .any e=true/\e.on=i
 | [],i=>by simp[pE]
 |e::l,i=>by
  have ih:=wL l i
  simp only[pE]
  cases hb:Region.binds .any e with
  |true=>simp[hb,zbR,ih,zb8]
  |false=>simp[hb,ih]
def FQ:∀{l:List Oper}{am:List Nat},aaG l am=true->am=l.map λo=>pE o.after.toList
 | [],[],_=>rfl
 | [],_::_,h=>by cases h
 |_::_,[],h=>by cases h
 |o::l,a::am,h=>by
  simp only[aaG,GE]at h
  rw[zaj,<-FQ h.2,zaA h.1]
def BP {ms:List Nat}{j:Nat}:∀{l:List Edge}{c:Nat},DQ ms j l=some c->∀i,c.testBit i=true->∃e∈l,Region.binds .any e=true/\e.on<j/\(e.on=i\/((nth ms e.on).getD 0).testBit i=true)
 | [],c,h,i,hi=>by simp only[DQ,zay]at h;subst h;simp at hi
 |e::l,c,h,i,hi=>by
  simp only[DQ]at h
  split at h
  ·rename_i m hb hm
   split at h
   ·rename_i hlt
    cases h
    simp only[zbR,zaw,zb8,decide_eq_true_eq]at hi
    rcases hi with hi|hi
    ·exact⟨e,zs,hb,za3 hlt,hi⟩
    ·obtain⟨e',he',h'⟩:=BP hm i hi
     exact⟨e',gr _ he',h'⟩
   ·cases h
  ·rename_i m hb hm
   cases h
   obtain⟨e',he',h'⟩:=BP hm i hi
   exact⟨e',gr _ he',h'⟩
  ·cases h
def Qp {ms:List Nat}:∀{j:Nat}{l:List Oper}{r:List Nat},VF ms j l r=true->∀k o,l[k]? = some o->∀i,((nth r k).getD 0).testBit i=true ->
  ∃e∈o.after.toList,Region.binds .any e=true/\e.on<j+k/\(e.on=i\/((nth ms e.on).getD 0).testBit i=true)
 |j,[],r,h,k,o,ho,i,hi=>by simp at ho
 |j,o'::l,[],h,k,o,ho,i,hi=>by cases h
 |j,o'::l,m::r,h,k,o,ho,i,hi=>by
  simp only[VF,GE]at h
  obtain⟨h1,h2⟩:=h
  cases k with
  |zero =>
   simp at ho;subst ho
   split at h1
   ·rename_i c hc
    have:=zaA h1
    subst this
    exact BP hc i (by simpa[nth]using hi)
   ·cases h1
  |succ k =>
   have:=Qp h2 k o (by simpa using ho) i (by simpa[nth]using hi)
   rw[show j+(k+1)=j+1+k by omega];exact this
def abk {ops:Array Oper}{ms:List Nat}(h:VF ms 0 ops.toList ms=true):Xy ops ms=true:=by
 simp only[Xy,zaM,zbz,zaw,zaH]
 intro j hj i _
 cases g:((nth ms j).getD 0).testBit i with
 |false=>exact .inl rfl
 |true =>
  refine .inr ?_
  have d:ops[j]? = some ops[j]:=zbe hj
  obtain⟨e,f,a,c,b⟩:=Qp h j ops[j] zs i g
  simp only[d,zcK,GE,zaw,decide_eq_true_eq,beq_iff_eq]
  exact⟨e,by simpa using f,⟨a,zo⟩,b⟩
def Mb (n:Nat)(listed:Array Bool)(L:Nat):Prop:=listed.size=n/\(∀k,listed.getD k false=true↔k<n/\L.testBit k=true)/\∀k,L.testBit k=true->k<n
def Mb.set {n:Nat}{listed:Array Bool}{L i:Nat}(h:Mb n listed L)(hi:i<n):Mb n (listed.setIfInBounds i true) (L ||| 2 ^ i):=by
 refine⟨by simp[h.1],λk=>?_,λk b=>?_⟩
 ·by_cases a:i=k
  ·subst a
   simp[zaJ,h.1,hi,zbR]
  ·rw[getD_set_ne false a,h.2.1 k]
   simp[zbR,a]
 ·simp only[zbR,zaw,zb8,decide_eq_true_eq]at b
  rcases b with b|b
  ·exact h.2.2 k b
  ·omega
def afF {a L:Nat}:Nat.beq (a &&& L) a=true↔∀k,a.testBit k=true->L.testBit k=true:=by
 constructor
 ·intro h k b
  have:=zaA h
  rw[<-this,Nat.testBit_and,GE]at b
  exact b.2
 ·intro h
  have:a &&& L=a:=by
   apply Nat.eq_of_testBit_eq
   intro k
   rw[Nat.testBit_and]
   cases b:a.testBit k with
   |false=>rfl
   |true=>rw[h k b];rfl
  rw[this];exact zci a
section
variable {ops:Array Oper}{am:List Nat}(ham:aaG ops.toList am=true){listed:Array Bool}{L:Nat}(hb:Mb ops.size listed L)
include ham hb
def Ob {i a:Nat}(m:nth am i=some a):Tb a L i=true↔i∈Region.ready .any ops listed:=by
 have t:=FQ ham
 rw[xm,t,zax]at m
 simp only[za0]at m
 obtain⟨o,p,rfl⟩:=m
 have f:ops[i]? = some o:=by simpa using p
 have q:i<ops.size:=(zaQ.1 f).1
 rw[mem_ready]
 simp only[Tb,GE,zaH,afF]
 constructor
 ·rintro⟨c,n⟩
  refine⟨?_,o,f,λe l d=>(hb.2.1 e.on).2 ?_⟩
  ·have:¬listed.getD i false=true:=λh=>by rw[((hb.2.1 i).1 h).2]at c;cases c
   have j:=hb.1
   simp only[zaJ]at this ⊢
   rw[zbe zo]at this ⊢
   simpa using this
  ·have:=n e.on ((wL _ _).2 ⟨e,by simpa using l,d,rfl⟩)
   exact⟨hb.2.2 _ this,this⟩
 ·rintro⟨c,u,b,g⟩
  rw[f]at b;cases b
  refine⟨?_,λk s=>?_⟩
  ·cases r:L.testBit i with
   |false=>rfl
   |true =>
    have:=(hb.2.1 i).2 ⟨q,r⟩
    simp only[zaJ]at this c
    have j:=hb.1
    rw[zbe zo]at this c
    simp at this c;rw[this]at c;cases c
  ·obtain⟨e,l,d,rfl⟩:=(wL _ _).1 s
   exact((hb.2.1 e.on).1 (g e (by simpa using l) d)).2
def FH {hs:List Nat}:∀{i:Nat}{as:List Nat},Kk L hs i as=true->(∀k,nth as k=nth am (i+k))->∀j,i<=j->j∈Region.ready .any ops listed->hs.contains j=true
 |i,[],h,hk,j,hij,hj=>by
  obtain⟨_,o,ho,_⟩:=mem_ready.1 hj
  have hm:=FQ ham
  have h1:=hk (j-i)
  rw[show i+(j-i)=j by omega,xm,xm,hm,zax]at h1
  have:ops.toList[j]? = some o:=by simpa using ho
  rw[this]at h1;simp at h1
 |i,a::as,h,hk,j,hij,hj=>by
  simp only[Kk,GE]at h
  by_cases he:j=i
  ·subst he
   have h0:=hk 0
   simp only[nth,zbM]at h0
   have hr:=(Ob ham hb h0.symm).2 hj
   have h1:=h.1
   rw[hr]at h1
   simpa using h1
  ·exact FH h.2 (λk=>by have:=hk (k+1);simp only[nth]at this;rw[this];congr 1;omega) j zo hj
def aaL {i:Nat}{r:Oper}(hi:ops[i]? = some r)(h:VB L i r ops 0 ops.toList am=true):Region.free .any ops listed i=true:=by
 have q:=FQ ham
 have g:∀(l:List Oper) (j:Nat) (as:List Nat),VB L i r ops j l as=true->as=l.map (λo=>pE o.after.toList)->∀k o,l[k]? = some o->(j+k=i\/L.testBit (j+k)=true\/(pE o.after.toList).testBit i=true\/r.apart ops o=true):=by
  intro l
  induction l with
  |nil=>intro j as h d k o c;simp at c
  |cons x l ih =>
   intro j as h d k o c
   cases as with
   |nil=>cases h
   |cons a as =>
    simp only[zaj,zbK]at d
    simp only[VB,GE,zaw]at h
    cases k with
    |zero =>
     simp at c;subst c
     rw[<-d.1]
     rcases h.1 with((b|b)|b)|b
     ·exact .inl (zaA b)
     ·exact .inr (.inl b)
     ·exact .inr (.inr (.inl b))
     ·exact .inr (.inr (.inr b))
    |succ k =>
     have:=ih (j+1) as h.2 d.2 k o (by simpa using c)
     rw[show j+(k+1)=j+1+k by omega];exact this
 simp only[Region.free,hi,zaM,zbz,zaw,beq_iff_eq]
 intro j hj
 have c:ops[j]? = some ops[j]:=zbe hj
 have:=g ops.toList 0 am h q j ops[j] zs
 rw[zaS]at this
 rcases this with b|b|b|b
 ·exact .inl (.inl b)
 ·refine .inl (.inr ?_)
  have f:=(hb.2.1 j).2 ⟨hj,b⟩
  have p:=hb.1
  simp only[zaJ]at f ⊢
  rw[zbe zo]at f ⊢
  simpa using f
 ·refine .inr ?_
  simp only[c,zaw,zcK,GE,beq_iff_eq]
  obtain⟨e,d,m,n⟩:=(wL _ _).1 b
  exact .inl ⟨e,by simpa using d,m,n⟩
 ·refine .inr ?_
  simp only[c,zaw]
  exact .inr b
end
def BG:∀p:BA,Mk p=G8 p.bv
 | .done=>rfl
 | .take _ _ _=>rfl
 | .run _ _ _ _=>rfl
 | .both p q=>by simp only[Mk,G8,BG p,BG q]
def ah4 {ops:Array Oper}{am ms:List Nat}(ham:aaG ops.toList am=true):∀(p:BA)(top:Bool)(listed:Array Bool)(L:Nat)(tk:List Nat),Mb ops.size listed L->okB ops ops.toList am ms p top L tk=true ->
  pi ops ms p.bv top listed tk=true:=by
 intro p
 induction p with
 |done =>
  intro top listed L tk b h
  simp only[okB]at h
  have:Region.ready .any ops listed=[]:=by
   rw[List.eq_nil_iff_forall_not_mem]
   intro j hj
   have:=FH ham b h (λk=>by rw[zaS]) j (zag _) hj
   simp at this
  simp[pi,this]
 |take i L' r ih =>
  intro top listed L tk b h
  simp only[okB]at h
  split at h
  ·rename_i o a s v
   simp only[GE]at h
   obtain⟨⟨⟨⟨u,e⟩,hf⟩,hL⟩,h⟩:=h
   have g:ops[i]? = some o:=by rw[xm]at s;simpa using s
   have y:i<ops.size:=(zaQ.1 g).1
   have d:=(Ob ham b v).1 (by simp only[Tb,GE];exact e)
   have f:=zaA hL
   subst f
   have:=ih true _ _ _ (b.set y) h
   simp only[pi,g,GE]
   refine⟨⟨⟨u,by simpa using d⟩,aaL ham b g hf⟩,?_⟩
   cases z:qW o.op with
   |true=>rw[z]at this;simpa using this
   |false=>rw[z]at this;simpa using this
  ·cases h
 |run j hs L' r ih =>
  intro top listed L tk b h
  simp only[okB]at h
  split at h
  ·rename_i a v
   simp only[GE,zaw,zaH]at h
   obtain⟨⟨⟨⟨c,e⟩,hall⟩,hL⟩,h⟩:=h
   have d:=(Ob ham b v).1 (by simp only[Tb,GE,zaH];exact e)
   obtain⟨_,o,s,_⟩:=mem_ready.1 d
   have y:j<ops.size:=(zaQ.1 s).1
   have f:=zaA hL
   subst f
   have:=ih true _ _ _ (b.set y) h
   simp only[pi,GE,zaw,zaH]
   refine⟨⟨⟨?_,by simpa using d⟩,hall⟩,this⟩
   refine c.imp id λt=>?_
   simp only[zaM,beq_iff_eq]
   intro x w
   have:=FH ham b t (λk=>by rw[zaS]) x (zag _) w
   simpa using this
  ·cases h
 |both p q ihp ihq =>
  intro top listed L tk b h
  simp only[okB,GE,zaw,zaH]at h
  obtain⟨⟨⟨n,c⟩,hp⟩,u⟩:=h
  simp only[pi,GE,zaw,zaH]
  refine⟨⟨⟨?_,?_⟩,ihp _ _ _ _ b hp⟩,ihq _ _ _ _ b u⟩
  ·cases C:Region.ready .any ops listed with
   |cons x l=>rfl
   |nil =>
    exfalso
    have m:∀(i:Nat) (as:List Nat),(∀k,nth as k=nth am (i+k))->Kk L [] i as=true:=by
     intro i as
     induction as generalizing i with
     |nil=>intro _;rfl
     |cons a as iha =>
      intro A
      simp only[Kk,GE]
      refine⟨?_,iha (i+1) λk=>by have:=A (k+1);simp only[nth]at this;rw[this];congr 1;omega⟩
      have B:=A 0
      simp only[nth,zbM]at B
      cases e:Tb a L i with
      |false=>(simp[Tb]at e ⊢)<;>exact e
      |true =>
       have:=(Ob ham b B.symm).1 e
       rw[C]at this;cases this
    rw[m 0 am λk=>by rw[zaS]]at n
    cases n
  ·refine c.imp id λt=>?_
   simp only[zaM]
   intro x w
   have:=FH ham b t (λk=>by rw[zaS]) x (zag _) w
   rw[BG,BG]at this
   exact this
def Wi (n:Nat):Mb n (Array.replicate n false) 0:=by
 refine⟨zs,λk=>?_,λk a=>by simp at a⟩
 have h:(Array.replicate n false).getD k false=false:=by
  simp only[zaJ,zcj]
  split<;>rfl
 simp[h]
def Mt {ops:Array Oper}{d:agi}(h:Xs ops d=true):Region.noSelect ops=true/\Xy ops d.ms=true/\pi ops d.ms d.bv.bv true (Array.replicate ops.size false) []=true/\depth d.bv.bv<=ops.size:=by
 simp only[Xs,GE]at h
 obtain⟨⟨⟨⟨a,b⟩,h3⟩,h4⟩,h5⟩:=h
 exact⟨a,abk h3,ah4 b _ _ _ _ _ (Wi _) h4,za3 h5⟩
end Go.Proofs.YtoealglbimbbmaaGreatDoor.S
