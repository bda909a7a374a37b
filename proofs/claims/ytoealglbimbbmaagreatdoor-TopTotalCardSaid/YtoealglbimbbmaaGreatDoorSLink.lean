import Derived.Test.YtoealglbimbbmaaGreatDoorSPoint
import Derived.Test.YtoealglbimbbmaaGreatDoorSIn
import Derived.Test.YtoealglbimbbmaaGreatDoorProg
import Derived.KernelRfl
set_option linter.defProp false
set_option linter.unusedVariables false
set_option linter.unusedSimpArgs false
namespace Go.Proofs.YtoealglbimbbmaaGreatDoor.S
open Go Go.Proofs Tryz
set_option maxRecDepth 100000
noncomputable def Y0:I5:={ P:=Tryz.prog,be:=λ|59=>some [.i .u64,.b,.i .i64]|_=>none }
def YW:Y0.OK:=by
 refine⟨λt ks h=>?_,by kernel_rfl⟩
 unfold Y0 at h
 simp only at h
 split at h
 ·cases h;exact afE 9 (by kernel_rfl) (by kernel_rfl) (by decide) (by kernel_rfl)
 ·cases h
abbrev zLk (S:KV->World->Prop)(f:FuncId)(args:List Value):Prop:=∀⦃K:KV⦄ ⦃w0:bz⦄ ⦃L:List bg⦄,G w0 L (S K)->G w0 L (CP Tryz.prog f args K)
def zlk (N:mJ){f:FuncId}{fn:Func}{args:List Value}{S:KV->World->Prop}(hf:Tryz.prog.funcs[f]? = some fn)(hn:(fn.name == "runtime.NumGoroutine")=false:=by kernel_rfl) (hE:∀K w,S K w=Hn Y0 N fn args K w:=by intro K w;kernel_rfl):zLk S f args:=λ_ _ _ h w hw=>W1 YW N hf hn (Eq.mp (hE _ w) (h w hw))
noncomputable def nl (l:List (List Nat)):Nat->List Nat:=List.rec (motive:=λ_=>Nat->List Nat) (λ_=>[]) (λa _ ih n=>Nat.rec (motive:=λ_=>List Nat) a (λm _=>ih m) n) l
noncomputable def kl (l:List Nat):Nat->List Nat:=λn=>aeJ 64 0 (List.rec (motive:=λ_=>Nat->Nat) (λ_=>0) (λa _ ih n=>Nat.rec (motive:=λ_=>Nat) a (λm _=>ih m) n) l n)
noncomputable def dl (l:List (Nat×Ff)):Nat->Ff:=List.rec (motive:=λ_=>Nat->Ff) (λ_=>.c []) (λp _ ih n=>cond (Nat.beq p.1 n) p.2 (ih n)) l
def zil:Nat->Nat->List Nat->List Nat
 |0,_,_=>[]
 |n+1,i,j::v::r=>match Nat.beq i j with|true=>v::zil n (i+1) r|false=>i::zil n (i+1) (j::v::r)
 |n+1,i,l=>i::zil n (i+1) l
def zc (n:Nat)(l:List Nat):Ff:=.c (zil n 0 l)
def ajD (n:Nat):List Nat->Bool
 | []=>false
 |a::l=>match Nat.beq a n with|true=>true|false=>ajD n l
def zjl:List (List Nat×List Nat×List Nat)->Nat->Option (List Nat×List Nat)
 | [],_=>none
 |p::l,n=>match ajD n p.1 with|true=>some p.2|false=>zjl l n
noncomputable def zw (l k r:List Nat)(p:List (Nat×Ff))(j b:List (List Nat×List Nat×List Nat)):mJ:={ cc:=kl l,bp:=kl k,aW:=kl r,bv:=dl p,cE:=zjl j,cL:=zjl b }
noncomputable def zk (k:List Nat):mJ:={ bp:=kl k }
noncomputable def zq (k:List Nat)(p:List (Nat×Ff)):mJ:={ bp:=kl k,bv:=dl p }
noncomputable def zj (k:List Nat)(j:List (List Nat×List Nat×List Nat)):mJ:={ bp:=kl k,cE:=zjl j }
noncomputable def zr (k:List Nat)(p:List (Nat×Ff))(j:List (List Nat×List Nat×List Nat)):mJ:={ bp:=kl k,bv:=dl p,cE:=zjl j }
abbrev zL0 (S:KV->World->Prop)(f:FuncId):Prop:=zLk (S ) f []
def zl0 (N:mJ){f:FuncId}{fn:Func}{S:KV->World->Prop}(hf:Tryz.prog.funcs[f]? = some fn)(hn:(fn.name == "runtime.NumGoroutine")=false:=by kernel_rfl) (hE:∀  K w,S  K w=Hn Y0 N fn [] K w:=by intros;kernel_rfl):zL0 S f:=zlk N hf hn (hE )
abbrev ja (S:Value->KV->World->Prop)(f:FuncId):Prop:=∀⦃a0:Value⦄,zLk (S a0) f [a0]
def jf (N:mJ){f:FuncId}{fn:Func}{S:Value->KV->World->Prop}(hf:Tryz.prog.funcs[f]? = some fn)(hn:(fn.name == "runtime.NumGoroutine")=false:=by kernel_rfl) (hE:∀a0 K w,S a0 K w=Hn Y0 N fn [a0] K w:=by intros;kernel_rfl):ja S f:=λa0=>zlk N hf hn (hE a0)
abbrev ly (S:Value->Value->KV->World->Prop)(f:FuncId):Prop:=∀⦃a0 a1:Value⦄,zLk (S a0 a1) f [a0,a1]
def lA (N:mJ){f:FuncId}{fn:Func}{S:Value->Value->KV->World->Prop}(hf:Tryz.prog.funcs[f]? = some fn)(hn:(fn.name == "runtime.NumGoroutine")=false:=by kernel_rfl) (hE:∀a0 a1 K w,S a0 a1 K w=Hn Y0 N fn [a0,a1] K w:=by intros;kernel_rfl):ly S f:=λa0 a1=>zlk N hf hn (hE a0 a1)
abbrev vG (S:Value->Value->Value->KV->World->Prop)(f:FuncId):Prop:=∀⦃a0 a1 a2:Value⦄,zLk (S a0 a1 a2) f [a0,a1,a2]
def vO (N:mJ){f:FuncId}{fn:Func}{S:Value->Value->Value->KV->World->Prop}(hf:Tryz.prog.funcs[f]? = some fn)(hn:(fn.name == "runtime.NumGoroutine")=false:=by kernel_rfl) (hE:∀a0 a1 a2 K w,S a0 a1 a2 K w=Hn Y0 N fn [a0,a1,a2] K w:=by intros;kernel_rfl):vG S f:=λa0 a1 a2=>zlk N hf hn (hE a0 a1 a2)
abbrev UZ (S:Value->Value->Value->Value->KV->World->Prop)(f:FuncId):Prop:=∀⦃a0 a1 a2 a3:Value⦄,zLk (S a0 a1 a2 a3) f [a0,a1,a2,a3]
def Vh (N:mJ){f:FuncId}{fn:Func}{S:Value->Value->Value->Value->KV->World->Prop}(hf:Tryz.prog.funcs[f]? = some fn)(hn:(fn.name == "runtime.NumGoroutine")=false:=by kernel_rfl) (hE:∀a0 a1 a2 a3 K w,S a0 a1 a2 a3 K w=Hn Y0 N fn [a0,a1,a2,a3] K w:=by intros;kernel_rfl):UZ S f:=λa0 a1 a2 a3=>zlk N hf hn (hE a0 a1 a2 a3)
abbrev zL5 (S:Value->Value->Value->Value->Value->KV->World->Prop)(f:FuncId):Prop:=∀⦃a0 a1 a2 a3 a4:Value⦄,zLk (S a0 a1 a2 a3 a4) f [a0,a1,a2,a3,a4]
def zl5 (N:mJ){f:FuncId}{fn:Func}{S:Value->Value->Value->Value->Value->KV->World->Prop}(hf:Tryz.prog.funcs[f]? = some fn)(hn:(fn.name == "runtime.NumGoroutine")=false:=by kernel_rfl) (hE:∀a0 a1 a2 a3 a4 K w,S a0 a1 a2 a3 a4 K w=Hn Y0 N fn [a0,a1,a2,a3,a4] K w:=by intros;kernel_rfl):zL5 S f:=λa0 a1 a2 a3 a4=>zlk N hf hn (hE a0 a1 a2 a3 a4)
abbrev zL7 (S:Value->Value->Value->Value->Value->Value->Value->KV->World->Prop)(f:FuncId):Prop:=∀⦃a0 a1 a2 a3 a4 a5 a6:Value⦄,zLk (S a0 a1 a2 a3 a4 a5 a6) f [a0,a1,a2,a3,a4,a5,a6]
def zl7 (N:mJ){f:FuncId}{fn:Func}{S:Value->Value->Value->Value->Value->Value->Value->KV->World->Prop}(hf:Tryz.prog.funcs[f]? = some fn)(hn:(fn.name == "runtime.NumGoroutine")=false:=by kernel_rfl) (hE:∀a0 a1 a2 a3 a4 a5 a6 K w,S a0 a1 a2 a3 a4 a5 a6 K w=Hn Y0 N fn [a0,a1,a2,a3,a4,a5,a6] K w:=by intros;kernel_rfl):zL7 S f:=λa0 a1 a2 a3 a4 a5 a6=>zlk N hf hn (hE a0 a1 a2 a3 a4 a5 a6)
section
variable {a0 a1 a2 a3 a4 a5 a6 a7 a8 a9:Value}{K:KV}{w0:bz}{L:List bg}
def QM:zL5 D4 7:=zl5 (zw [0,0,0,0,0,6144,0,0,0,0,0,24576,0,0,0,0,0,0,0,0,0,0,65536,0,0,131072,0,0,0,0,0,0,0,524288,0,0,0,0,0,0,4194304] [31,62,0,62,2110,6206,6206,6206,0,6206,14398,30782,30782,30782,14398,2104,2088,2088,2088,34824,0,34824,100360,100360,100360,231432,231432,231432,493576,0,34816,0,34816,559104,559104,559104,1607680,3704832,0,1607680,5801984,5801984,5801984,22579200] [0,0,0,0,0,62,0,0,0,0,0,6206,0,0,0,0,0,0,0,0,0,0,34824,0,0,100360,0,0,0,0,0,0,0,34816,0,0,0,0,0,0,1607680] [(27,zc 13 [11,75]),(28,zc 27 [15,524367]),(16,.c [0,1,3,4,6,7,8,17474,10,16453,73,75,12,77,14,15,80])] [([16],[3,5,11],[])] []) func7
def V8:zL0 Nc 9:=zl0 (zw [0,0,0,0,0,4] [0,0,2,0,2,6,6,6,2,26] [0,0,0,0,0,2] [] [] []) func9
def QU:ly GR 10:=lA (zw [0,0,0,0,0,0,4294967296,0,0,0,0,0,2251799813685248] [3,6,6,6,6,38,7516192806,7516192806,7516192998,7516192998,7516192806,38,3377699720527910,3377699720527910,3377699720528166,3377699720528678,3377699720528166,3377699720528678,3377699720527910,32] [0,0,0,0,0,0,3221225510,0,0,0,0,0,1125899906842662] [(4,zc 7 [3,131,5,69]),(17,zc 14 [8,1096,9,1097,10,74,13,77])] [([9],[1,2,5,30,31,32],[]),([16],[1,2,5,8,50,51],[9])] []) func10
def Bf:ja qk 13:=jf (zk [1,1]) func13
def Xu:vG PH 14:=vO (zk [6,20]) func14
def rG:vG m9 15:=vO {cc:=fun|13=>[80]|_=>[],bp:=nl [[0,1,2],[0,1,2],[],[0,1,2],[0,1,2],[0,1,2,7],[0,1,2,7],[7],[],[0,1,2,7],[0,1],[],[0,1],[0,1,78,79,80],[0,1,78,79,80],[0,1,8,9,78,79,80],[0,1,9,78,79,80],[0,1,78,79,80]],aW:=fun|13=>[0,1,78,79]|_=>[],bv:=dl [(9,.c [0,1,2,3,4,5,6,7,8,10,11,12,13,14,1048649,79]),(16,.c [0,1,2,3,4,5,6,7,8,9,10,11,76])],cE:=λ|16=>some ([0,1,78,79,80],[])|_=>none} func15
def xY:ja nX 21:=jf (zw [0,0,0,2056] [1,1,9,3592,3592,3624,3592,8] [0,0,0,1536] [] [] []) func21
def Ym:ja PW 25:=jf (zk [1,5]) func25
def Q9:ly G4 26:=lA (zw [0,0,32,0,0,0,0,0,0,0,128] [3,3,35,35,35,0,35,99,35,99,227,227,227,1] [0,0,3,0,0,0,0,0,0,0,99] [] [([8],[0,1,5],[6])] []) func26
def yG:ly oW 27:=lA (zk [3,3,32,32]) func27
def L9:vG Ay 29:=vO (zw [0,0,0,0,896,0,0,0,0,0,0,0,0,0,0,0,0,0,0,0,0,0,0,0,0,0,0,0,0,384] [7,71,199,455,967,967,967,1991,4039,4039,1991,8135,967,8135,967,8135,967,8135,967,8135,1991,6087,1991,6087,1991,6087,1991,6087,1991,448,448,192,192,192] [0,0,0,0,71,0,0,0,0,0,0,0,0,0,0,0,0,0,0,0,0,0,0,0,0,0,0,0,0,64] [(26,.c [0,1,2,4,5,6,8,16451,7,73,74,75,12]),(28,.c [0,1,3,4,6,7,1090,69,8,73,74,11])] [([12,14,16],[0,1,2,6,9],[7,8]),([18,20,22,24,26,28],[0,1,2,6,8,9],[7]),([32],[6],[7])] [([0],[6],[7,8])]) func29
def RS:vG Hj 30:=vO (zj [7,7,7,7,3] [([3],[1],[0])]) func30
def yM:ja oQ 31:=jf (zk [1,1]) func31
def Bt:ly qD 32:=lA (zk [3,3,32,32]) func32
def RA:ja HD 33:=jf {cc:=fun|6=>[6,9]|33=>[12]|_=>[],bp:=nl [[0],[1],[],[1],[1,6],[1,6,7,8],[1,6,7,8,9],[1,6,7,8,9],[1,6,7,8,9],[1,6,7,8,9,10],[1,6,7,8,9,10],[1,6,7,8,9,10],[1,6,7,8,9,10],[9],[1,6,7,8,9,10],[1,6,7,8,9,10,11],[9],[1,6,7,8,9,10,11],[1,6,7,8,9,10,11,106],[1,6,7,8,9,10,11,106],[1,6,7,8,9,11],[9],[1,6,7,8,9,11],[1,6,7,8,9,10,11,106],[1,6,7,8,9,10,11,106],[1,6,7,8,9,10],[1,6,7,8,9],[1,6,7,8,9,10,11,106],[1,6,7,8,9,10,11],[1,6,7,8,9,11],[1,6,7,8],[6],[1,7,8],[1,7,8,12],[1,7,8,12],[1,7,8,12],[1,7,8,12,13],[1,7,8,12,13],[1,7,8,12,13],[1,7,8,12,13],[12],[7,8]],aW:=fun|6=>[1,7,8]|33=>[1,7,8]|_=>[],bv:=dl [(4,.p (.take 0 1 (.take 1 3 (.take 2 7 (.take 4 23 (.take 5 55 (.take 6 119 (.both (.run 3 [5] 127 (.take 8 383 (.run 7 [] 511 (.take 9 1023 .done)))) (.run 7 [1] 247 (.run 3 [] 255 (.take 8 511 (.take 9 1023 .done)))))))))))),(39,.c [0,1,2,3,4,5,6,7,8,9,10,11,12,13,14,15,16,17,18,19,20,21,22,23,24,25,26,27,28,29,30,31,32])],cE:=λ|10=>some ([1,6,7,8,9,10],[])|19=>some ([1,6,7,8,9,10,11,106],[107])|20=>some ([1,7,8,9],[6])|24=>some ([1,6,7,8,9,10,11,106],[120])|25=>some ([1,7,8,9],[6])|28=>some ([1,6,7,8,9],[])|37=>some ([1,7,8,12,13],[])|_=>none,cL:=λ|4=>some ([1,7,8,12],[])|_=>none} func33
def AN:ja qs 36:=jf (zw [0,0,2048] [1,1,3584,3584,3600,3616,0,3584] [0,0,1536] [] [] []) func36
def PJ:ja Ey 37:=jf (zq [1,6] [(1,.c [0,1,3,4,5,6,7,8,9,10,11,12,13,14,279618,15,80])]) func37
def acp:ja SB 38:=jf (zq [1,2,2] [(2,.c [0,1,2,4,5,6,7,9,10,12,13,600195,589960,524427,142,15,80,17])]) func38
def Rt:ja Hq 39:=jf (zk [1,1,8,8]) func39
def Uv:ly J5 40:=lA (zj [3,25,49,49,48] [([3],[4,5],[])]) func40
def S5:vG JW 41:=vO (zw [0,0,0,0,536870912] [7,21,21,132,939524224,939524224,939524736,939524224,128,128] [0,0,0,0,402653312] [(2,zc 12 [8,8776,10,74]),(6,zc 14 [7,1095,9,1097,10,74,13,77])] [] []) func41
def NW:ja Ct 42:=jf (zk [1,1]) func42
def EE:ja t7 43:=jf (zk [1,5,133,5,133,5,133,5,4]) func43
def CN:ja r9 44:=jf (zj [1,1,1,1] [([3],[],[])]) func44
def Ek:UZ tV 45:=Vh (zr [15,45,32813,45,557,525,2573,13,13,13,32805,37,32801,33,33,33] [(4,zc 6 [5,69])] [([3,9,11,13],[],[]),([7],[0,2,3],[]),([14],[0,5],[])]) func45
def Eg:vG ux 46:=vO (zw [0,0,524288] [7,7,917511,917511,917639,1,1,1,1,917511] [0,0,393223] [] [([6,8],[],[])] []) func46
def Af:ja pI 52:=jf (zw [0,0,0,8200] [1,1,9,14345,14345,14377,14345,9,9,137,9,8] [0,0,0,6145] [] [([8,10],[],[3])] []) func52
def vE:ly oA 57:=lA (zk [3,3,0,3]) func57
def An:ja ql 58:=jf (zk [1,1]) func58
def WY:ly MP 60:=lA (zq [3,3,67,16451,67,16451,67,129,67] [(4,.c [0,1,4,5,6,66,67,7,8]),(8,.c [0,1,4,5,6,66,67,7,8])]) func60
def YD:ja PB 61:=jf (zk [1,1]) func61
def QZ:ja Hv 62:=jf (zr [1,6,62,126,254,4194558,4194558,14,4194558,14,4194558,28,4194558,62,4194526,4194526,4194526,204,4194526,4194526,4194526,212,4194526,30,4194526,30,4194524,4194524,28,4194508,12,4194508,204,12] [(1,.c [0,1,3,4,6,7,9282,8261,72,9,10,11])] [([6],[1,2,3,4,5,6,7,22],[23]),([15,16],[1,2,3,4,6,7,22],[54]),([19,20],[1,2,3,4,6,7,22],[62]),([27],[2,3,4,6,7,22],[86])]) func62
def Da:ja sK 63:=jf (zk [1,1]) func63
def WC:ja M4 64:=jf (zk [1,2,26,0,2]) func64
def YR:ja PN 65:=jf (zk [1,6]) func65
def Yr:ja QN 66:=jf (zk [1,1]) func66
def TO:ly Kx 67:=lA (zq [3,3] [(1,.p (.take 0 1 (.take 3 9 (.run 1 [] 11 (.both (.run 2 [] 15 (.run 4 [] 31 (.take 5 63 (.run 6 [] 127 (.take 7 255 .done))))) (.run 4 [] 27 (.run 2 [] 31 (.take 5 63 (.run 6 [] 127 (.take 7 255 .done))))))))))]) func67
def WI:ja MF 68:=jf (zk [1,1]) func68
def WN:ja Mz 69:=jf (zk [1,1]) func69
def UK:ly JL 70:=lA (zr [3,25,57,48,185,57,185,57,185,57,185,57,185,57,185,49,185,57,185,57,185,57,48] [(5,zc 14 [6,70,11,75,13,77]),(7,zc 11 [8,72,10,74]),(9,zc 14 [6,70,11,75,13,77]),(11,zc 18 [10,74,15,79,17,81]),(13,zc 11 [8,72,10,74]),(17,zc 16 [8,72,13,77,15,79]),(19,zc 14 [6,70,11,75,13,77]),(21,zc 11 [8,72,10,74])] [([5,7,9,11,13,15,17,19,21],[4,5],[])]) func70
def WA:zL0 MH 71:=zl0 {} func71
def tD:ja tg 72:=jf (zk [1,1,0,1]) func72
def yP:ja oY 73:=jf (zk [1,1,1]) func73
def Nv:ja CH 74:=jf (zk [1,1]) func74
def Cb:ja qJ 75:=jf (zq [1,5,133,5,133,4,133,5,133,5,133,4,5] [(7,zc 12 [10,74])]) func75
def CR:ja sE 76:=jf (zw [0,0,0,0,0,0,0,4611686018427387908] [1,1,1,1,1,1,5,8070450532247928837,8070450532247928837,8070450532247928853,8070450532247928837,5,1] [0,0,0,0,0,0,0,3458764513820540929] [(2,zc 11 []),(11,zc 14 [10,74,13,77]),(1,zc 23 [19,83,22,86])] [([5],[0],[])] []) func76
def Be:ja qb 77:=jf (zq [1,1] [(1,zc 10 [])]) func77
def BN:ly rh 78:=lA (zr [3,9,9,9,1,9,9,1,4194313,1,4194313,9,1,4194313,1,4194313,1] [(11,zc 16 [9,5193,12,4172,15,79]),(6,zc 6 [5,69])] [([9,11,14,16],[],[])]) func78
def Dr:ja sA 79:=jf (zk [1,1,0,1]) func79
def C8:vG sD 80:=vO (zr [7,71,67,65,65,1,67,67,67,65,3,65,1,1,1,65,65] [(1,zc 13 [7,1095,8,1096,9,73,12,76]),(8,.c [0,65,2,3,4,6,7,8,9,10,11,131141,12,13]),(3,.c [0,1,2,3,4,5,7,9,11,1094,1096,1098,1100,13,1102,79,16,17,82]),(4,.c [0,1,2,3,4,6,581,583,72])] [([7,12,16],[],[])]) func80
def C7:vG sG 81:=vO (zq [7,21,17,5] [(1,zc 24 []),(2,zc 10 [6,582,9,73])]) func81
def BW:ly re 82:=lA (zk [3,1]) func82
def BQ:ja qS 83:=jf (zk [1,1]) func83
def xG:ja ol 84:=jf (zk [1,1]) func84
def NT:ja CA 86:=jf (zq [1,6,6] [(1,.c [0,1,3,4,6,7,9282,9,8261,72,74,11,76,13,78])]) func86
def Em:ly uD 87:=lA (zr [3,19,51,115,371,115,371] [(6,.c [0,1,2,3,4,5,6,7,8,9,10,11,12,13,14,15,16,17,18,19,21,22,24,25,26,27,28,29,31,33,35,8598594132,8598594135,8598594142,8598594144,8598594146,8598594148,37,102])] [([5],[0,1,4,5,6],[8])]) func87
def pc:ja o5 92:=jf (zk [1,1,0,1]) func92
def Ip:ja yl 93:=jf (zk [1,1]) func93
def QT:ja GO 94:=jf (zj [1,5,21,53,20,53,20,53,53,53,53,53,21,53,20,53,20,53,20,53,20,53,4,53,20,53,53,53,53,53,53,53,5,52,20,52,4,52,20,4] [([8,9,10,11],[0,2,4,5],[15]),([26,27,28,29,30,31],[0,2,4,5],[55])]) func94
def Qn:ly DZ 95:=lA (zk [3,3]) func95
def Rc:ly GL 96:=lA (zk [3,3]) func96
def LN:ly Bo 97:=lA (zk [3,3,0,3]) func97
def K5:vG zK 98:=vO (zk [7,7,0,7]) func98
def Gh:ly v8 99:=lA (zk [3,19,16,19]) func99
def IP:UZ yb 100:=Vh (zq [15,195,1219,1024,195,0,131] [(4,zc 9 []),(6,zc 8 [7,71])]) func100
def EI:vG uz 101:=vO (zr [7,35,163,163,128] [(3,zc 8 [7,71])] [([3],[7],[])]) func101
def Kd:vG zl 102:=vO (zk [7,7,0,7,0,7,0,5]) func102
def Iz:ly yD 103:=lA (zk [3,3,0,3]) func103
def GF:vG wg 104:=vO (zk [7,7,0,7]) func104
def vH:ja ns 105:=jf (zk [1,1,0,1]) func105
def NE:vG Cv 106:=vO (zk [7,21,132,128]) func106
def Q1:vG Hs 107:=vO (zq [7,49,160,128] [(2,zc 15 [11,75,14,78])]) func107
def Dp:UZ r8 108:=Vh (zk [15,1]) func108
def B8:ja rL 109:=jf (zr [1,13,1,17,1,17,1,1033,1,1033,1,1,1033,9] [(5,.c [0,1,2,3,4,5,6,7,8,9,10,11,12,13,14,15,16,17,19,20,21,22,23,24,25,26,27,28,29,30,31,139586995282,96,33,34,99])] [([8,10,13],[],[])]) func109
def B6:ja qR 110:=jf (zj [1,1,65,65,1,1,1] [([3,4],[0],[]),([6],[],[])]) func110
def Dz:ja um 111:=jf (zk [1,1,0,1]) func111
def Dm:ly sP 112:=lA (zw [0,0,2064] [3,19,3091,3091,3091,19,1,1,1] [0,0,1027] [] [([8],[],[])] []) func112
def CO:ly sL 113:=lA (zw [0,0,16384] [3,1,28673,28673,28705,28673,1] [0,0,12289] [(4,zc 10 [8,2632,9,73])] [([1],[0],[])] []) func113
def Dv:ja sF 114:=jf (zk [1,1,0,1]) func114
def Bi:ja qq 115:=jf (zk [1,1,0,1]) func115
def Aq:ja qz 116:=jf (zk [1,1]) func116
def KX:vG yT 117:=vO (zw [0,1024] [7,1795,1795,1923,1795] [0,771] [] [] []) func117
def A9:ja qy 118:=jf (zk [1,1,0,1,1,1]) func118
def DP:ja vd 119:=jf (zk [1,1,1,1]) func119
def E8:ja uB 120:=jf (zr [1,1,1,1,5,1,5,1] [(0,zc 10 []),(2,zc 12 []),(3,zc 10 [8,72])] [([1],[0],[])]) func120
def JH:ja zE 121:=jf (zk [1,1]) func121
def qT:ja lK 126:=jf (zk [1,1,0,1]) func126
def BE:ja rx 127:=jf (zk [1,1,0,1]) func127
def yN:ja oX 128:=jf (zk [1,1]) func128
def Bu:ja qB 129:=jf (zk [1,1]) func129
def Bb:ja qj 130:=jf (zk [1,1,0,1]) func130
def OA:ly Ee 134:=lA (zk [3,3]) func134
def Jc:ly zb 135:=lA (zk [3,3]) func135
def Ii:vG xS 136:=vO (zk [7,35,0,32]) func136
def La:ly AJ 137:=lA (zk [3,3]) func137
def NS:ly Cq 138:=lA (zq [3,9,9] [(2,zc 12 [7,199,8,200,10,74])]) func138
def U0:vG JC 139:=vO (zq [7,14,14,270] [(3,.c [0,1,2,4,6,7,8,131,133,9,74,11])]) func139
def DB:ja ut 140:=jf (zw [] [1,1,1,1,1,1,17,16,4503599627370513,4503599627370512] [0,0,0,1] [(2,.c [0,1,2,3,5,6,7,8,16452,73,10,11]),(3,zc 10 []),(5,zc 16 [14,78])] [] []) func140
def C9:ly sR 141:=lA (zq [3,1] [(0,zc 33 [19,20,20,21,21,22,22,23,23,24,24,25,25,26,26,27,27,28,28,18253612115,29,93,32,96])]) func141
def Lg:ja A2 142:=jf (zk [1,1]) func142
def Az:ly qw 143:=lA (zq [3,3] [(0,zc 19 [14,33870,15,79,18,82])]) func143
def K1:ja zm 144:=jf (zk [1,1]) func144
def Um:zL7 I9 145:=zl7 (zk [127,127,32768,32768]) func145
def mn:vG kC 146:=vO (zk [7]) func146
def AL:ja qe 147:=jf (zr [1,33,1,33,1,1,33,1,1,33,1] [(10,.c [0,1,2,3,4,6,7,8,9,32837,74,75])] [([2,4,7,10],[],[])]) func147
def CY:ja sM 148:=jf (zk [1,1,0,1]) func148
def wZ:ja nS 149:=jf (zk [1,1]) func149
def CM:ja si 150:=jf (zk [1,1]) func150
def I0:ja xh 151:=jf (zw [0,0,0,131072] [1,1,9,229384,229384,229432,229384,8] [0,0,0,98312] [] [] []) func151
def KQ:ja zL 152:=jf (zk [1,1]) func152
def Jd:ja zQ 153:=jf (zk [1,1]) func153
def HY:ly xg 154:=lA (zw [0,0,0,16480] [3,3,99,28771,28771,29027,29027,29027,28771,97,32] [0,0,0,12291] [] [([6],[0,1,12,13,14],[5,6])] []) func154
def qN:ja lM 155:=jf (zk [1,1,0,1]) func155
def Au:ja qc 156:=jf (zk [1,1]) func156
def wB:ja po 157:=jf (zk [1,1]) func157
def JY:ja zG 158:=jf (zw [0,0,0,131080] [1,1,9,229385,229385,229417,229385,8] [0,0,0,98305] [] [] []) func158
def ab1:ja ST 161:=jf (zk [1,2,2,2]) func161
def Xv:ly P0 162:=lA (zq [3,3] [(1,.p (.take 0 1 (.take 1 3 (.take 2 7 (.take 4 23 (.both (.run 3 [] 31 (.run 5 [] 63 (.take 6 127 (.run 7 [] 255 (.take 8 511 .done))))) (.run 5 [] 55 (.run 3 [] 63 (.take 6 127 (.run 7 [] 255 (.take 8 511 .done)))))))))))]) func162
def Xh:ja MG 163:=jf (zk [1,1]) func163
def V9:ja Mx 164:=jf (zw [0,0,0,0,0,2097168] [1,2,0,2,18,3670034,3670034,3670130,3670258,160,3670130,3670034,18,16,2] [0,0,0,0,0,1572866] [(14,zc 8 [2,130,3,67])] [] []) func164
def Rh:ja GS 165:=jf (zw [0,0,0,0,0,0,0,134217728,0,0,0,0,137438953472,0,0,0,0,0,144115188075855872] [1,2,18,0,2,34,98,201326690,201326690,201326818,201326690,98,240518168674,240518168674,240518169442,240518168930,240518168674,98,252201579132747872,252201579132747872,252201579132750944,252201579132748896,252201579132747872,64] [0,0,0,0,0,0,0,67108962,0,0,0,0,103079215202,0,0,0,0,0,108086391056892000] [] [([15],[1,5,6,35,36,37],[]),([21],[5,6,55,56,57],[])] []) func165
def VV:zL0 Mo 166:=zl0 {} func166
def Gi:ja wF 167:=jf {bp:=nl [[0],[0],[0],[0],[0],[0],[0],[0],[0],[0],[0,3],[0,3],[0,3,65],[0],[0],[0,3,65],[],[0]],aW:=kl [0,1],bv:=dl [(4,.c [0,1,2,3,4,5,6,7,8,9,10,11]),(9,.c [0,1,2,3,4,5,6,7,8,9,10,11,76,13])],cE:=λ|13=>some ([0],[])|_=>none,cL:=λ|1=>some ([0],[])|_=>none} func167
def F9:ja wi 168:=jf (zk [1,1]) func168
def UQ:ly JX 169:=lA (zj [3,3,227,35,163,128,35,419,128,291] [([3],[0,1,5],[7])]) func169
def Wm:zL5 MW 170:=zl5 (zk [31,31]) func170
def Ws:vG Na 171:=vO (zq [7,7,0,7] [(3,.c [0,1,4,66,3,69,6,7])]) func171
def Tk:vG Kq 172:=vO (zk [7,7]) func172
noncomputable def sQ:mJ:={ cc:=λ|_=>[],bp:=λ|0=>[0]|1=>[0,2]|2=>[0,2,3]|3=>[3,13]|4=>[3,5]|5=>[3,5,6]|6=>[3,6]|7=>[3,6]|8=>[3]|_=>[],aW:=λ|_=>[],bv:=λ|_=>.c [],cE:=λ|_=>none,cL:=λ|_=>none }
def Pp:ly E3 174:=lA (zk [3,19]) func174
def Lc:vG Av 175:=vO (zw [0,0,0,8320] [7,7,135,14470,14470,14982,15494,15494,14470,128,128] [0,0,0,6150] [] [([7],[1,2,11,12,13],[7])] []) func175
def EY:ja tT 176:=jf (zr [1,1,1] [(1,zc 11 [])] [([2],[],[])]) func176
def yH:ja oV 177:=jf (zr [1,1,1,5,5,2097157,1,1,2097157,1] [(2,zc 11 [8,584,9,73]),(6,.c [0,1,2,3,4,5,6,7,9,10,11,12,262728,589,78])] [([6,9],[],[])]) func177
def CU:ja sq 178:=jf (zk [1,1,0,1]) func178
def Gu:ja ww 179:=jf (zk [1,1]) func179
def HT:ja yC 180:=jf (zk [1,1]) func180
def TJ:ja JS 181:=jf (zk [1,1,32,256,8,32,8192,16]) func181
def C5:ja rZ 183:=jf (zw [0,0,0,2056] [1,1,9,3592,3592,3624,3592,8] [0,0,0,1536] [] [] []) func183
def Qi:ly D7 184:=lA (zw [0,0,512] [3,3,898,898,962,0,898] [0,0,386] [] [] []) func184
def Bp:ja qg 185:=jf (zk [1,1]) func185
def VG:ja Mn 186:=jf (zk [1,1]) func186
def Tq:ja J7 187:=jf (zk [1,1]) func187
def Rb:vG Hi 188:=vO (zq [7,42,0,42,0,42,0,34] [(3,zc 14 [2,66,7,8,8,9,9,32839,10,74])]) func188
def E9:vG uZ 189:=vO (zj [7,7,7,7,3,1] [([2],[1,2],[0]),([4],[],[0])]) func189
def E4:ja ud 190:=jf (zk [1,1,0,1]) func190
def Q3:ly GZ 191:=lA (zw [0,0,2048] [3,6,3590,3590,3782,3782,64,3590] [0,0,1542] [(5,zc 41 [])] [] [([1],[1,2,9,10,11],[])]) func191
def NP:ja Cr 192:=jf (zw [0,0,0,0,16400] [1,2,10,26,28696,28696,28792,28792,28696,8] [0,0,0,0,12296] [] [] []) func192
def Tc:ja KG 193:=jf (zk [1,1,8,0,8,0,8]) func193
def El:ly uL 194:=lA (zk [3]) func194
def yg:ly p8 195:=lA (zr [3,9,233,9,4294967529,40,4294967529,96,4294967529,224,4294967529,224,4294967529,224,4294967529,224,4294967529,224,4294967401,9,4294967401,41,9,4294967401,33,0,4294967401,0,4294967401,9,4294967401,4294967401,4294967401,4294967401,105] [(1,zc 26 []),(24,zc 9 [7,71])] [([5,7,9,11,13,15,17,19,21,22],[],[]),([31,32,33],[0,3,5,6],[120])]) func195
def Rs:ly Hy 196:=lA (zk [3,3,0,3,384,256,128,1536,0,1536]) func196
def K8:ly A8 197:=lA (zk [3,3,0,3,195,64,3,259,256,3]) func197
def TH:ja K2 198:=jf (zk [1,1]) func198
def Lz:ly Bj 199:=lA (zw [0,0,512] [3,3,899,899,963,0,899,3] [0,0,387] [] [] []) func199
def jH:ja ik 200:=jf (zk [1,2]) func200
def Vb:ja Km 201:=jf (zk [1,1]) func201
def EZ:ly uH 202:=lA (zw [0,0,0,8192] [3,3,35,14369,14369,14497,14625,289,256,14369] [0,0,0,6177] [] [] []) func202
def GI:ja we 203:=jf (zk [1,1]) func203
def JB:ja za 206:=jf (zk [1,1]) func206
def JF:ly zz 207:=lA (zq [3,9,0,9,105,40,0,0,9,0,9] [(8,zc 10 []),(10,zc 11 [6,1094,7,71,10,74])]) func207
def Ij:ja xi 208:=jf (zq [1,5,4,5] [(3,zc 11 [10,74])]) func208
def Lq:vG Aw 209:=vO (zk [7,7,0,7,135,132,0,0,7,3]) func209
def IZ:ja xW 210:=jf (zk [1,1,0,1]) func210
def Ga:ja wj 211:=jf (zk [1,1]) func211
def Ar:ja qh 212:=jf (zk [1,1]) func212
def BO:ja B4 213:=jf (zk [1,1,0,1]) func213
def ED:ly t9 214:=lA (zk [3,3]) func214
def Pg:zL0 Fu 218:=zl0 {} func218
def YM:ja O6 219:=jf (zk [1,2,58]) func219
def LD:ly AX 220:=lA (zq [3,9,0,9] [(3,zc 8 [3,195])]) func220
def PV:ja Ex 221:=jf (zk [1,1]) func221
def UD:ja Ks 222:=jf (zk [1,1]) func222
def PR:ja D2 223:=jf (zk [1,1]) func223
def D5:ly vu 224:=lA (zk [3,3]) func224
def EP:ly uC 225:=lA (zq [3,9,233,536871145,105,536871145,105,536871145,105,536871145,233,536871145,105,536871145,105,536871145,97,536871145,41,536871145,233,536871145,105,536871145,105,233,777] [(1,zc 21 []),(4,.c [0,1,3,4,5,6,7,8,4162,73,10,11,76,13]),(6,.c [0,1,3,4,5,6,7,8,4162,73,10,11,76,13]),(8,.c [0,1,3,4,5,6,7,8,4162,73,10,11,76,13]),(10,.c [0,1,3,4,5,6,7,8,9,4162,74,11,12,77,14]),(12,.c [0,1,3,4,5,6,7,8,4162,73,10,11,12,77,14]),(14,.c [0,1,3,4,5,6,7,8,4162,73,10,11,76,13]),(20,.c [0,1,3,4,5,6,7,8,9,4162,74,11,12,77,14]),(22,.c [0,1,3,4,5,6,7,8,4162,73,10,11,12,77,14]),(24,.c [0,1,3,4,5,6,7,8,4162,73,10,11,76,13])]) func225
def Dg:UZ sn 226:=Vh (zr [15,45,131117,45,1541,1024,517,3076,3076,1024,131117,45,12297,8192,4105,131085,13,0,13,49156,49156,32768,5,0,5] [(11,zc 11 [5,69]),(24,zc 10 [8,72])] [([8],[10],[]),([20],[15],[])]) func226
def E7:ly uN 227:=lA (zr [3,9,73,73,9,65,65,1,1,65,1,1,1,65,1,1,1,1] [(4,zc 9 [7,71]),(11,zc 15 [14,78]),(15,zc 15 [14,78])] [([3],[0,3,6],[7]),([6],[0,6],[18])]) func227
def Lt:ja A6 228:=jf (zk [1,1]) func228
def OX:ja DR 229:=jf (zk [1,1,1,1,1]) func229
def PD:ly Fe 230:=lA (zk [3,3]) func230
noncomputable def wv:mJ:={ cc:=λ|_=>[],bp:=λ|0=>[0,1]|1=>[0,3,4,5]|2=>[3,4,5,16]|3=>[3,4,5,7]|4=>[4,5,8,9]|5=>[4,5,8]|6=>[4,5]|_=>[],aW:=λ|_=>[],bv:=λ|3=>.c [0,1,2,3,4,69,6,7,8,9,10]|_=>.c [],cE:=λ|_=>none,cL:=λ|_=>none }
def Fy:ly uY 232:=lA (zw [0,0,0,0,1048576] [3,3,35,35,1835041,1835041,1835169,1835297,289,256,1835041] [0,0,0,0,786465] [] [] []) func232
def Gx:vG wh 234:=vO (zq [7,7,0,7,135,133,0,7,0,7] [(7,zc 10 [])]) func234
def KR:ly yS 237:=lA (zw [0,0,8192] [3,3,14338,14338,14466,128,14338] [0,0,6146] [] [] []) func237
def vq:ly mG 238:=lA (zk [3,3,1,1,1,33,97,0,3,256]) func238
def RK:ja Hm 241:=jf (zr [1,29,61,188,188,188,60,188,188,60,188,188,188,188,188,60,188,188,60,188,28,188,60,156,28,28] [(25,.c [0,1,2,451,324,69]),(9,.c [0,1,194,67]),(15,.c [0,1,2,451,324,69]),(18,.c [0,1,2,195,68,69])] [([4,5],[2,3,4,5,7],[8]),([6,9,15,18,20,22,24],[2,3,4],[]),([8],[2,3,4,5,7],[13]),([11,12,13,14],[2,3,4,5,7],[18]),([17],[2,3,4,5,7],[27])]) func241
def Vx:ja Mu 242:=jf (zk [1,1]) func242
def I6:ly yR 243:=lA (zk [3,6]) func243
def JO:ly zJ 244:=lA (zk [3,3,0,3]) func244
def CW:ly rX 245:=lA (zk [3,12]) func245
def XT:vG OB 246:=vO (zk [7,49,305,768]) func246
def X7:vG Qe 247:=vO (zk [7,49,305,768]) func247
def YL:vG QF 248:=vO (zk [7,49,305,768]) func248
def Xa:UZ MB 249:=Vh (zk [15,225,1249,3072]) func249
def BH:ly rz 250:=lA (zk [3,12]) func250
def Ww:vG MO 251:=vO (zq [7,49,1585,3584,2048,1536] [(5,zc 5 [])]) func251
def WW:vG Ng 252:=vO (zk [7,49,305,768]) func252
def Fg:vG vB 253:=vO (zk [7,7,129,128,1]) func253
def DK:vG ue 254:=vO (zk [7,21,913,1,913]) func254
def YO:UZ P5 255:=Vh (zk [15,225,1249,3072]) func255
def YG:vG Qk 256:=vO (zq [7,49,1585,3584,2048,1536] [(5,zc 5 [])]) func256
def Xw:vG P9 257:=vO (zk [7,49,305,768]) func257
def Ug:UZ KL 258:=Vh (zk [15,225,1249,3072,2048,1024]) func258
def Pw:ly Fz 259:=lA (zk [3,3,0,3]) func259
def JJ:vG zA 260:=vO (zk [7,7,0,7]) func260
def Q5:ly G3 261:=lA (zk [3,3,65,0,65,449,256,193,193,65]) func261
def SY:ly JM 262:=lA (zj [3,3,227,35,163,35,131,131,128] [([3],[0,1,5],[7]),([5],[0,1],[7]),([7],[7],[])]) func262
def Dd:vG sc 263:=vO (zq [7,7,135,128,7] [(4,zc 22 [15,66639,17,1105,18,82,21,85])]) func263
def Do:ja sH 264:=jf (zq [1,5,13,12] [(1,zc 14 [12,139852,13,77]),(2,zc 15 [14,78])]) func264
def Mh:ja Ap 265:=jf (zk [1,1]) func265
def DL:ly vA 266:=lA (zq [3,9,9] [(2,zc 7 [6,70])]) func266
def Le:ja Am 267:=jf (zk [1,1]) func267
def C0:ja sO 268:=jf (zw [] [1,1,1,9,25,16,9,9,9,33,33,1,1] [0,1] [(8,zc 9 [])] [] []) func268
def F6:ly wE 269:=lA (zk [3,3,65,65]) func269
def Iw:ja xD 270:=jf (zq [1,1] [(1,zc 13 [])]) func270
def Gf:vG vT 271:=vO (zk [7,7,0,7,135,647,0,134]) func271
def EK:ly tZ 272:=lA (zk [3,9]) func272
def PC:ly ES 279:=lA (zk [3,3]) func279
def zZ:ja pQ 284:=jf (zk [1,1,1,1]) func284
def T3:ly Jv 290:=lA (zk [3,3,0,3]) func290
def U9:zL0 Jr 291:=zl0 {} func291
def Bz:UZ qr 292:=Vh (zq [15,15,2,13,0,13] [(5,.c [0,1,2,3,5,6,388,7,72])]) func292
def Ca:ly rk 293:=lA (zk [3,3]) func293
def Yw:vG Qh 294:=vO {cc:=fun|14=>[67]|_=>[],bp:=nl [[0,1,2],[0,1,2],[],[0,2],[0,2,7],[0,7],[0,7],[9],[0,7],[7],[0,7],[0,7,10],[10],[0,7],[0,65,66,67],[0,65,66,67],[0,12,65,66,67],[0,65,66,67]],aW:=fun|14=>[0,65,66]|_=>[]} func294
def Tm:UZ Jn 295:=Vh (zk [15,109,109,237,233,169,8]) func295
def WL:vG M0 296:=vO (zw [0,0,192] [7,135,197,69,197,133,192] [0,0,5] [] [] [([0],[],[6,7])]) func296
def LC:ja Bg 297:=jf (zk [1,1]) func297
def TP:vG Jo 298:=vO (zk [7,7]) func298
def Gy:ly wo 299:=lA (zk [3,3,0,3,97,32]) func299
def Gb:vG wb 300:=vO (zj [7,7] [([1],[],[])]) func300
def Gp:vG vS 301:=vO (zk [7]) func301
def T5:UZ Kp 302:=Vh (zj [15,109,105,73,8] [([2],[],[])]) func302
def IW:ly xH 303:=lA (zk [3,3,0,3,97,32]) func303
def IH:ly xX 304:=lA (zj [3,3] [([1],[],[])]) func304
def TU:UZ Kr 305:=Vh (zk [15,77]) func305
def Q7:zL5 Hr 306:=zl5 (zr [31,95,31,93,93,477,265,221,93,93,221,733,729,721,721,81,16] [(7,zc 21 [1,65]),(15,zc 12 [11,75])] [([2],[0,2,3,4],[6]),([8],[0,2,3,4,6],[7])]) func306
def Uj:ly Kw 307:=lA (zj [3,3,33,32,33,33,97,33,33,97,32] [([7],[0,5],[6])]) func307
def Tx:ly Jh 308:=lA (zw [0,0,0,16384] [3,3,35,16419,16419,16483,16419,35,35,35,35,32] [0,0,0,35] [(9,zc 11 [10,74])] [] []) func308
def IR:ly yh 309:=lA (zw [0,0,16] [3,3,19,19,51,48,35,16] [0,0,3] [(1,zc 12 [9,585])] [] []) func309
def HP:ja xM 310:=jf (zw [0,0,0,0,0,0,33554432] [1,2,6,14,30,30,58720278,58720278,58720374,58720278,22,22,22,18] [0,0,0,0,0,0,25165846] [(3,zc 7 [5,69]),(10,zc 9 [8,72]),(11,zc 10 [6,198,9,73]),(12,zc 11 [10,74]),(13,zc 11 [10,74])] [] []) func310
def Ai:zL5 pS 311:=zl5 (zq [31,31,4,27,0,25] [(5,zc 8 [7,71])]) func311
def Di:ja sf 312:=jf (zk [1,1]) func312
def Rz:zL5 GV 313:=zl5 (zj [31,93,93,281,281] [([4],[],[])]) func313
def Rv:UZ Hu 314:=Vh (zr [15,45,45,233,233,169,137,8] [(5,zc 12 [11,75])] [([4],[],[])]) func314
def T2:vG KC 315:=vO (zk [7,49]) func315
def Tw:ly KN 316:=lA (zq [3,9,393,896,512,384] [(5,zc 5 [])]) func316
def Ui:zL5 KB 317:=zl5 (zk [31,93,221,221,137,93,349,345,337,337,336,80,16]) func317
def LU:ly A3 318:=lA (zw [0,0,0,32] [3,3,3,35,35,99,32,99,227,35,163,163] [0,0,0,3] [] [([9],[0,1,5],[7])] []) func318
def Mc:vG Bq 319:=vO (zq [7,5,7] [(1,zc 10 [9,73]),(2,zc 21 [20,84])]) func319
def IU:ja yE 320:=jf (zw [] [1,1,5,29,29,61,25,61,53,21,5,1,1] [1] [(2,.p (.take 0 1 (.take 1 3 (.take 2 7 (.take 3 15 (.take 4 31 (.take 5 63 (.take 6 127 (.take 7 255 (.take 8 511 (.take 9 1023 (.take 10 2047 (.take 11 4095 (.take 12 8191 (.take 13 16383 (.take 14 32767 (.take 15 65535 (.both (.run 16 [15,11,7,3] 131071 (.run 17 [15,11,7,3] 262143 (.run 18 [15,11] 524287 (.run 19 [] 1048575 .done)))) (.run 17 [15,11,7,3] 196607 (.run 16 [15,11,7,3] 262143 (.run 18 [15,11] 524287 (.run 19 [] 1048575 .done))))))))))))))))))))))] [([12],[],[])] [([1],[0],[])]) func320
def Tu:zL5 KI 321:=zl5 (zj [31,93,153,153] [([3],[],[])]) func321
def Ud:UZ Jt 322:=Vh (zj [15,45,105,104,8] [([3],[],[])]) func322
def NL:ly CL 323:=lA (zr [3,3,19,19,17,3,35,3,35,99,3,99,35,35,3] [(2,zc 14 [12,588,13,77]),(3,zc 14 [12,588,13,77])] [([1],[0],[1]),([7],[0,1],[5]),([12,13],[0,1],[])]) func323
def Pb:zL5 Eu 324:=zl5 (zq [31,92] [(1,.c [0,1,3,4,1602,69,70])]) func324
def Gz:zL5 wx 325:=zl5 (zj [31,31,16,31,2079,2079,2079,2079,2079,31,16] [([5,7],[0,1,2,3,11],[4]),([9],[],[4])]) func325
def N0:ja Cs 326:=jf (zq [1,1] [(1,zc 10 [8,72])]) func326
def RU:ja HB 327:=jf (zw [0,0,0,0,8] [1,1,0,1,9,9,9,8] [0,0,0,0,1] [] [] []) func327
def RR:vG Hg 328:=vO (zj [7,7,0,7,259,1795,771,1280,1024,256] [([6],[8],[10])]) func328
def RW:ly GP 329:=lA (zk [3,3,195,128,67,0,67,259,768,512,256]) func329
def Lp:ly AO 330:=lA (zk [3]) func330
def LK:ja Bw 331:=jf (zk [1,1]) func331
def Ki:ja zN 332:=jf (zk [1,1]) func332
def DV:ja t6 333:=jf (zq [1,1,9,25,16,9,40,40] [(6,zc 13 [9,73,12,76]),(7,zc 11 [8,584,9,73])]) func333
def Ja:ly zh 334:=lA (zq [3] [(0,zc 18 [14,78,17,81])]) func334
def uh:ja od 335:=jf (zq [1,1,0,1] [(3,zc 15 [14,78])]) func335
def FA:ja uR 336:=jf (zw [0,0,0,32776] [1,1,9,57352,57352,57384,57352,8] [0,0,0,24576] [] [] []) func336
def px:ly kI 337:=lA (zw [0,0,256] [3,3,387,387,419,32,387] [0,0,131] [] [] []) func337
def Cc:ly rD 338:=lA (zk [3,6]) func338
def NM:ja Cx 344:=jf (zk [1,1]) func344
def XK:ja Oo 349:=jf (zw [0,0,0,16384,0,0,0,0,268435456] [1,1,9,28681,28681,28713,28681,9,469762056,469762056,469762184,469762056,8] [0,0,0,12297,0,0,0,0,201326600] [] [] []) func349
def H0:ja xJ 350:=jf (zj [1,1,1,1,1] [([3],[0],[])]) func350
def F7:ly wq 351:=lA (zk [3,3]) func351
def Iu:ly yy 352:=lA (zj [3,3] [([1],[],[])]) func352
def RL:ly Hw 353:=lA (zk [3,3]) func353
def IG:ly yw 354:=lA (zw [0,2048,0,0,32] [3,3075,3075,3091,3107,3107,3171,3139,3075] [0,1027,0,0,3075] [(3,zc 12 [10,74])] [] []) func354
def D9:UZ uO 355:=Vh (zq [15,43,41] [(0,zc 10 [6,7,7,8262,8,72]),(1,zc 11 [10,74])]) func355
def Ph:vG DT 356:=vO (zj [7,55,21,55,39,55,53,117,113,113,81,81,81] [([2],[0,2],[4,5]),([4],[0,2,5],[4]),([10],[0,4,6],[])]) func356
def OO:UZ Fc 357:=Vh (zk [15,45,45,109,109,97,65]) func357
def Jk:vG zP 358:=vO (zq [7,7,1,0,7,3,3] [(6,zc 14 [10,586,12,76])]) func358
def LJ:UZ Bn 359:=Vh (zq [15,11,11] [(2,zc 19 [15,591,18,82])]) func359
def Nz:ly Cy 360:=lA (zk [3,3]) func360
def Fv:vG uc 361:=vO (zr [7,49,49,33,97,97,65] [(2,zc 12 [10,1354,11,75])] [([2],[0,5],[])]) func361
def J0:vG zf 362:=vO (zj [7,1,7,71,67] [([4],[],[])]) func362
def Mm:ly AC 363:=lA (zw [0,0,0,2] [3,3,3,3,3,35,35,33,2] [0,0,0,1] [] [] [([0],[],[1])]) func363
def F8:ja wz 364:=jf (zw [] [1,1,5,13,29,29,29,29,29,29,9,29,25,29,13,9,5] [1] [(9,zc 12 [11,75]),(10,zc 11 [6,1094,7,71,10,74])] [] [([1],[0],[])]) func364
def Tt:ja Jg 365:=jf (zk [1,1,0,1]) func365
def Eh:ly vz 366:=lA (zk [3,18]) func366
def DO:ja uJ 367:=jf (zq [1,1,0,1] [(3,zc 11 [5,1093,6,1094,7,71,10,74])]) func367
def Gj:ja wc 368:=jf (zk [1,1]) func368
def I2:ly xx 372:=lA (zk [3,3,1,0,2]) func372
def LR:vG AV 373:=vO (zk [7,7,135,135,128]) func373
def LO:vG At 374:=vO (zj [7,21,21,85,85,85,81,21,21,21,21,5] [([2],[0,4],[2])]) func374
def Mi:ja Bl 398:=jf (zk [1,1]) func398
def I1:ja yj 399:=jf (zk [1,5,4,5,5,5]) func399
def HQ:ly yx 400:=lA (zr [3,9,9,9,9,9,1] [(2,zc 6 [4,68]),(5,zc 15 [])] [([3,4,6],[],[])]) func400
def BL:ja qL 401:=jf (zk [1,1]) func401
def wV:ly nQ 402:=lA (zj [3,9,9,1] [([2],[0],[])]) func402
def Aj:UZ pN 403:=Vh (zk [15]) func403
def GJ:ly v7 404:=lA (zr [3,9,9,9,9,9,9,1] [(4,zc 6 [4,68]),(5,zc 6 [5,69]),(6,zc 8 [])] [([4,5,7],[],[])]) func404
def yO:ly oR 405:=lA (zq [3,9,0,1,1] [(1,zc 7 [])]) func405
def IX:ja xN 406:=jf (zk [1,1]) func406
def E6:ja tS 407:=jf (zq [1,5,4,5,4,5] [(5,zc 14 [12,76])]) func407
def DC:ly uG 408:=lA (zr [3,1,9,9,9,9,9,9,9,1,1,1] [(2,zc 6 [4,68]),(10,zc 10 []),(4,zc 10 [6,582,9,73]),(6,zc 7 [5,69]),(7,zc 7 [6,70]),(8,zc 16 [])] [([4],[0],[]),([7,11],[],[])]) func408
def IV:ja xk 409:=jf (zk [1,1]) func409
def DJ:ja uF 410:=jf (zq [1,5,4,5,16389,5,16389,5,21,16389,4,16389,5,16389,5,16389,5,16389,5,5] [(5,zc 14 [12,76]),(7,zc 12 [10,17482,11,75]),(8,zc 19 [17,81]),(12,zc 12 [10,74]),(14,zc 14 [12,76]),(16,zc 25 [23,87]),(18,zc 19 [17,81]),(19,zc 23 [21,85])]) func410
def Fx:ly uw 411:=lA (zr [3,9,9,4105,4105,9,4105,4105,9,4105,9,4097,1,1,4097,1,1,4097,1,1] [(1,zc 5 [4,68])] [([4],[0,3,12],[13]),([5,8,10,12,15,18],[],[]),([7],[0,3,12],[19])]) func411
def CQ:ja sV 412:=jf (zk [1,1]) func412
def Fj:ly uv 413:=lA (zr [3,1,9,9,9,9,9,1,1] [(7,zc 14 [9,1097,10,74,13,77])] [([3,5,7],[],[])]) func413
def CS:ly rW 414:=lA (zr [3,1,9,1,9,9,9,1,1,1] [(8,zc 10 [])] [([3,5,7,9],[],[])]) func414
def B0:ly qP 415:=lA (zr [3,1,1,9,9,9,1] [(5,zc 15 [])] [([4,6],[],[])]) func415
def De:ja sa 416:=jf (zr [1,1,1] [(0,zc 10 [])] [([1],[],[])]) func416
def Fq:ja uM 417:=jf (zr [1,1] [(0,zc 10 [])] [([1],[],[])]) func417
def Df:ja sI 418:=jf (zr [1,1] [(0,zc 10 []),(1,zc 16 [15,79])] [([1],[],[])]) func418
def EG:ly tR 419:=lA (zr [3,9,9] [(1,zc 6 [4,68])] [([2],[],[])]) func419
def E5:UZ uU 420:=Vh (zk [15,1,1]) func420
def Dq:ja se 421:=jf (zw [] [1,1,1,1,13,5,1,1] [0,1] [(1,zc 10 []),(3,zc 21 [15,79]),(5,zc 20 [])] [] []) func421
def uK:ly mF 422:=lA (zw [0,0,0,384] [3,3,67,451,451,963,835,707,195] [0,0,0,67] [] [([6],[0,1,6],[7,8])] []) func422
def Ir:ja yq 423:=jf (zk [1,1]) func423
end
end Go.Proofs.YtoealglbimbbmaaGreatDoor.S
